/-
  Lemmas of the card.
-/
import Derived.WalkKit
import Derived.WalkSpells
import Derived.WalkLawsBesides
import Derived.Lib.Hide
import Derived.Deep.AppendLies
import Derived.RangeFuncNested
import Derived.RangeFuncBound
import Derived.RangeFuncCalls
import Derived.RangeFuncLeaves
import Derived.RangeFuncFrom
import Derived.RangeFuncWrites
import Derived.Shelf.Abstract
import Derived.OwnWalkIn
import Derived.TacticsInMore
import Derived.LoopNIn
import Derived.LoopIn
import Derived.Maps.OwnSet
import Derived.Sort.KeysCollected
import Derived.Shelf.Strings.Builder1
import Derived.Shelf.Small.Bits
import Derived.Shelf.Strconv.Itoa0
import Derived.Shelf.Strings.Search1
import Derived.Shelf.Strings.Search2
import Derived.Shelf.Strings.Search3
import Derived.Shelf.Strings.Cut
import Derived.Shelf.LaysM
import Derived.Shelf.Strings.Shaped
import Derived.Shelf.Sort.Plain
import Derived.Shelf.Strings.Prefix
import Derived.Shelf.Unicode.DecodeSlow
import Derived.Shelf.Slices.In.SortNone
import Derived.Test.YtlcecobipgmafaaGreatDoorProg
import Derived.Lib.IndexLaws
import Derived.Laws.RangeAny
import Derived.ProofKit
import Derived.OpenShut
import Derived.Deep.Slices
import Derived.Lib.SmallJoins
import Derived.Test.YtlcecobipgmafaaGreatDoorCards
import Derived.Test.YtlcecobipgmafaaGreatDoorTie
import Derived.Deep.DeepHandedRow
import Derived.Lib.LaidTab
import Derived.Lib.LaidIn
import Derived.Deep.QuietTactic
import Derived.BigQuiet
import Derived.Laws.StructEq
import Derived.Laws.BitsLemmas
set_option maxRecDepth 100000
set_option maxHeartbeats 2000000
namespace Go.Proofs.YtlcecobipgmafaaGreatDoor
abbrev OA := Option Addr
theorem ah {p : Prop} (h : p) : Go.RowKit.Hid p := Lib.hid h
theorem ai {n : Nat} : n <= n := Nat.le_refl n
theorem aA {a b : Value} (h : some a = some b) : a = b := Option.some.inj h
open Go.RowKit
theorem aZ {a b : Bool} (h : a = b) : Ending.returned (.bool a) = .returned (.bool b) := by rw [h]
def Sl (w : World) (B size : Nat) (A : OA) (n : Nat) (xs : List Value) : Prop :=
 xs.length = n * size /\ (0 < n -> ∃ b off, A = some ⟨b, off, none⟩ /\ b < B /\ ∀ j u, xs[j]? = some u -> w.cell? ⟨b, off + j, none⟩ = some u)
section
variable {w w' : World} {B B' size n : Nat} {A : OA} {xs : List Value}
theorem Sl.nil (w : World) (B size : Nat) (A : OA) : Sl w B size A 0 [] := ⟨by simp, fun h => absurd h (by omega)⟩
theorem Sl.keep (h : Sl w B size A n xs) (hk : ∀ p : Addr, p.block < B -> w'.cell? p = w.cell? p) : Sl w' B size A n xs :=
 ⟨h.1, fun hn => by
   obtain ⟨b, off, e, hb, hc⟩ := h.2 hn; exact ⟨b, off, e, hb, fun j u hu => (hk ⟨b, off + j, none⟩ hb).trans (hc j u hu)⟩⟩
theorem Sl.more (h : Sl w B size A n xs) (hB : B <= B') : Sl w B' size A n xs :=
 ⟨h.1, fun hn => by
   obtain ⟨b, off, e, hb, hc⟩ := h.2 hn; exact ⟨b, off, e, by omega, hc⟩⟩
theorem Sl.below (h : Sl w B size A n xs) (hb : Below B' w w') (hB : B <= B') : Sl w' B size A n xs := h.keep fun _ hp => hb.cell (by omega)
theorem Sl.alloc (h : Sl w B size A n xs) (hB : B <= w.heap.size) (o : Obj) : Sl (w.alloc o) B size A n xs :=
 h.keep fun p hp => World.cell?_of_block (w := w) (Below.heap_alloc w o p.block (by omega))
theorem Sl.drew (h : Sl w B size A n xs) : Sl w.drew B size A n xs := h
theorem Sl.drewN (h : Sl w B size A n xs) (k : Nat) : Sl (w.drewN k) B size A n xs := h
theorem Sl.grown (h : Sl w B size A n xs) {row : Option Nat} (hg : w.grownBy w' row) (hB : B <= w.heap.size) (hr : ∀ g, row = some g -> B <= g) : Sl w' B size A n xs :=
 h.keep fun p hp => World.cell?_of_block (hg.block p.block (by omega) (fun e => by have := hr _ e.symm; omega))
theorem Sl.of_own {base : Nat} {e : TypeId} {c : Nat} (h : w.ownsRow base e size (.slice A n c) n xs) : Sl w w.heap.size size A n xs := by
 refine ⟨h.1, fun hn => ?_⟩; rcases h.2 with ⟨hv, h0⟩ | ⟨g, cap, cur, hv, _, hh, _, _, _, hcur⟩
 . omega
 . injection hv with hA
   subst hA; refine ⟨g, 0, rfl, (Array.getElem?_eq_some_iff.1 hh).1, fun j u hu => ?_⟩; have := h.cells (g := g) rfl j u hu
   rwa [Addr.add_lit] at this
end
def flat {α : Type} (enc : α -> List Value) (xs : List α) : List Value := xs.flatMap enc
section
variable {α : Type} {enc : α -> List Value} {s : Nat}
theorem gq (hs : ∀ x, (enc x).length = s) (xs : List α) : (flat enc xs).length = xs.length * s := by
 induction xs with
 | nil => simp [flat]
 | cons x xs ih => simp only [flat, List.flatMap_cons, List.length_append, List.length_cons] at ih ⊢; rw [ih, hs, Nat.add_mul]; omega
theorem bT (xs ys : List α) : flat enc (xs ++ ys) = flat enc xs ++ flat enc ys := by simp [flat]
theorem ow (hs : ∀ x, (enc x).length = s) (xs : List α) (k j : Nat) (x : α) (h : xs[k]? = some x) (hj : j < s) : (flat enc xs)[k * s + j]? = (enc x)[j]? := by
 induction xs generalizing k with
 | nil => simp at h
 | cons v us ih =>
   cases k with
   | zero =>
     simp only [List.getElem?_cons_zero, Option.some.injEq] at h; subst h; simp only [flat, List.flatMap_cons, Nat.zero_mul, Nat.zero_add]; rw [List.getElem?_append_left (by rw [hs]; exact hj)]
   | succ k =>
     simp only [List.getElem?_cons_succ] at h; rw [<- ih k h]; simp only [flat, List.flatMap_cons]; rw [List.getElem?_append_right (by rw [hs, Nat.succ_mul]; omega), hs]
     congr 1
     rw [Nat.succ_mul]; omega
theorem nK (hs : ∀ x, (enc x).length = s) (xs : List α) (k : Nat) : flat enc (xs.take k) = (flat enc xs).take (k * s) := by
 induction xs generalizing k with
 | nil => simp [flat]
 | cons v us ih =>
   cases k with
   | zero => simp [flat]
   | succ k =>
     have := ih k; simp only [flat, List.take_succ_cons, List.flatMap_cons] at this ⊢; rw [this, List.take_append, hs, List.take_of_length_le (l := enc v) (by rw [hs, Nat.succ_mul]; omega), Nat.succ_mul, Nat.add_sub_cancel]
theorem nR (hs : ∀ x, (enc x).length = s) (xs : List α) (k : Nat) : flat enc (xs.drop k) = (flat enc xs).drop (k * s) := by
 induction xs generalizing k with
 | nil => simp [flat]
 | cons v us ih =>
   cases k with
   | zero => simp [flat]
   | succ k =>
     have := ih k; simp only [flat, List.drop_succ_cons, List.flatMap_cons] at this ⊢; rw [this, List.drop_append, hs, List.drop_of_length_le (l := enc v) (by rw [hs, Nat.succ_mul]; omega), List.nil_append, Nat.succ_mul, Nat.add_sub_cancel]
variable {w : World} {B n : Nat} {A : OA} {xs : List α}
theorem Sl.len (hs : ∀ x, (enc x).length = s) (h0 : 0 < s) (h : Sl w B s A n (flat enc xs)) : xs.length = n := by
 have := h.1; rw [gq hs] at this; exact Nat.eq_of_mul_eq_mul_right h0 this
theorem Sl.at_ {k : Nat} (hs : ∀ x, (enc x).length = s) (h0 : 0 < s) (h : Sl w B s A n (flat enc xs)) (hk : k < n) :
  ∃ b off x, A = some ⟨b, off, none⟩ /\ b < B /\ xs[k]? = some x /\ ∀ j v, (enc x)[j]? = some v -> w.cell? ⟨b, off + k * s + j, none⟩ = some v := by
 obtain ⟨b, off, rfl, hb, hc⟩ := h.2 (by omega); have hl := h.len hs h0; have hu : xs[k]? = some xs[k] := List.getElem?_eq_getElem (by omega); refine ⟨b, off, xs[k], rfl, hb, hu, fun j v hv => ?_⟩; have hj : j < s := by
  have := (List.getElem?_eq_some_iff.1 hv).1
  rwa [hs] at this
 rw [Nat.add_assoc]; exact hc _ v ((ow hs xs k j _ hu hj).trans hv)
theorem Sl.take_ {k : Nat} (hs : ∀ x, (enc x).length = s) (h0 : 0 < s) (h : Sl w B s A n (flat enc xs)) (hk : k <= n) : Sl w B s A k (flat enc (xs.take k)) := by
 have hl := h.len hs h0; refine ⟨by rw [gq hs, List.length_take]; congr 1; omega, fun hk0 => ?_⟩; obtain ⟨b, off, e, hb, hc⟩ := h.2 (by omega); refine ⟨b, off, e, hb, fun j u hu => hc j u ?_⟩; rw [nK hs] at hu; rw [List.getElem?_take] at hu; split at hu
 . exact hu
 . cases hu
end
theorem bA {α : Type} {l : List α} {k : Nat} {x : α} (h : l[k]? = some x) : l.take (k + 1) = l.take k ++ [x] := by
 have hk := (List.getElem?_eq_some_iff.1 h).1; rw [List.take_succ_eq_append_getElem hk]
 congr 2
 exact (List.getElem?_eq_some_iff.1 h).2
def Bk (w : World) (b : Nat) (t : TypeId) (cs : Array Value) : Prop := w.heap[b]? = some (.cells cs t (0, 0))
section
variable {w w' : World} {b : Nat} {t : TypeId} {cs : Array Value}
theorem Bk.lt (h : Bk w b t cs) : b < w.heap.size := (Array.getElem?_eq_some_iff.1 h).1
theorem Bk.cell (h : Bk w b t cs) (i : Nat) : w.cell? ⟨b, i, none⟩ = cs[i]? := by
 unfold Bk at h; simp [World.cell?, h]
theorem Bk.free (h : Bk w b t cs) (i : Nat) : w.frozen? ⟨b, i, none⟩ = false := by
 unfold Bk at h; simp [World.frozen?, h]
theorem fr4 {w : World} {b : Nat} {t : TypeId} {cs : Array Value} (h : Bk w b t cs) : w.frozen? ⟨b, 0, none⟩ = false /\ w.frozen? ⟨b, 1, none⟩ = false /\ w.frozen? ⟨b, 2, none⟩ = false /\ w.frozen? ⟨b, 3, none⟩ = false := ⟨h.free 0, h.free 1, h.free 2, h.free 3⟩
theorem fr7 {w : World} {b : Nat} {t : TypeId} {cs : Array Value} (h : Bk w b t cs) : w.frozen? ⟨b, 0, none⟩ = false /\ w.frozen? ⟨b, 1, none⟩ = false /\ w.frozen? ⟨b, 2, none⟩ = false /\ w.frozen? ⟨b, 3, none⟩ = false /\ w.frozen? ⟨b, 4, none⟩ = false /\ w.frozen? ⟨b, 5, none⟩ = false /\ w.frozen? ⟨b, 6, none⟩ = false := ⟨h.free 0, h.free 1, h.free 2, h.free 3, h.free 4, h.free 5, h.free 6⟩
theorem fr9 {w : World} {b : Nat} {t : TypeId} {cs : Array Value} (h : Bk w b t cs) : w.frozen? ⟨b, 0, none⟩ = false /\ w.frozen? ⟨b, 1, none⟩ = false /\ w.frozen? ⟨b, 2, none⟩ = false /\ w.frozen? ⟨b, 3, none⟩ = false /\ w.frozen? ⟨b, 4, none⟩ = false /\ w.frozen? ⟨b, 5, none⟩ = false /\ w.frozen? ⟨b, 6, none⟩ = false /\ w.frozen? ⟨b, 7, none⟩ = false /\ w.frozen? ⟨b, 8, none⟩ = false := ⟨h.free 0, h.free 1, h.free 2, h.free 3, h.free 4, h.free 5, h.free 6, h.free 7, h.free 8⟩
theorem Bk.new (w : World) (t : TypeId) (cs : Array Value) : Bk (w.alloc (.cells cs t)) w.heap.size t cs := heap_alloc_new w _
theorem Bk.alloc (h : Bk w b t cs) (o : Obj) : Bk (w.alloc o) b t cs := (Below.heap_alloc w o b h.lt).trans h
theorem Bk.below {B : Nat} (h : Bk w b t cs) (hb : Below B w w') (hB : b < B) : Bk w' b t cs := (hb.block b hB).trans h
theorem Bk.grown {row : Option Nat} (h : Bk w b t cs) (hg : w.grownBy w' row) (hr : some b ≠ row) : Bk w' b t cs := (hg.block b h.lt hr).trans h
theorem Bk.far (h : Bk w b t cs) {p : Addr} (hp : b ≠ p.block) (u : Value) : Bk (w.setCell p u) b t cs := (Below.heap_setCell w p u b hp).trans h
theorem Bk.drew (h : Bk w b t cs) : Bk w.drew b t cs := h
theorem Bk.drewN (h : Bk w b t cs) (k : Nat) : Bk (w.drewN k) b t cs := h
theorem Bk.set (h : Bk w b t cs) (i : Nat) (u : Value) : Bk (w.setCell ⟨b, i, none⟩ u) b t (cs.setIfInBounds i u) := by
 unfold Bk at h ⊢; simp [World.setCell, Array.getElem?_modify, h]
theorem Bk.set2 {x y : Value} (h : Bk w b t #[x, y]) (x' y' : Value) : Bk ((w.setCell ⟨b, 0, none⟩ x').setCell ⟨b, 1, none⟩ y') b t #[x', y'] := by
 have := (h.set 0 x').set 1 y'
 simpa using this
end
theorem di {B b : Nat} {w w' : World} (h : Below B w w') (hb : B <= b) (x y : Value) : Below B w ((w'.setCell ⟨b, 0, none⟩ x).setCell ⟨b, 1, none⟩ y) :=
 (h.setCell (p := ⟨b, 0, none⟩) hb x).setCell (p := ⟨b, 1, none⟩) hb y
theorem Sl.setCell {w : World} {B size n : Nat} {A : OA} {xs : List Value} (h : Sl w B size A n xs) {p : Addr} (hp : B <= p.block) (u : Value) : Sl (w.setCell p u) B size A n xs :=
 h.keep fun q hq => World.cell?_of_block (w := w) (Below.heap_setCell w p u q.block (by omega))
def strs (l : List ByteArray) : List Value := l.map Value.string
theorem kY (l : List ByteArray) : (strs l).length = l.length := by simp [strs]
section
variable {ι : Type} {w w' : World} {base : Nat} {e : TypeId} {f : ι -> Value} {L : ι -> List ByteArray}
end
theorem Sl.str_at {w : World} {B n k : Nat} {A : OA} {l : List ByteArray} (h : Sl w B 1 A n (strs l)) (hk : k < n) : ∃ b off x, A = some ⟨b, off, none⟩ /\ b < B /\ l[k]? = some x /\ w.cell? ⟨b, off + k, none⟩ = some (.string x) := by
 obtain ⟨b, off, e, hb, hc⟩ := h.2 (by omega); have hl : l.length = n := by have := h.1; rw [kY] at this; omega
 have hx : l[k]? = some (l[k]'(by omega)) := List.getElem?_eq_getElem _; exact ⟨b, off, _, e, hb, hx, hc k _ (by simp [strs, hx])⟩
section
def qW {α : Type} (F : Fence) (n : Nat) (P : Program) (g : Nat) (lb : Array Value) (encs : α -> Array Value) (Kp St : World -> World -> Prop) (Pf S Sp : List α -> Prop) (w : World) : Prop :=
 ∀ (l : Nat) (J Jx : List α -> World -> Prop) (W : World), Below w.heap.size w W -> (∀ pre A B, J pre A -> St A B -> J pre B) ->
  (∀ pre x W1, Pf (pre ++ [x]) -> J pre W1 -> YieldAt F (n - 1) P l (encs x) W1 fun e W' =>
    (e = .returned (.bool true) /\ J (pre ++ [x]) W' /\ Kp W1 W') ∨ (e = .returned (.bool false) /\ Jx (pre ++ [x]) W')) ->
  J [] W ->
  CallsIn F n P g (#[.func (.yield l) #[] #[]] ++ lb) W fun e W' => (∃ v, e = .returned v) /\ ((∃ xs, S xs /\ J xs W') ∨ (∃ pre, Sp pre /\ Jx pre W'))
variable {F : Fence} {n : Nat} {P : Program}
theorem si {α : Type} {g : Operand} {ps : Array Tmp} {assign body : Code} {Q : Exit -> Act -> World -> Prop} {a : Act} {w : World}
  (hro : F.round = none) (h1 : 1 <= n) {gf : Nat} {lb : Array Value} (hg : a.eval g = .func (.func gf) #[] lb) (hFg : F.fn gf) (eg : ∀ args w, (callFunc gf args).run P w = .ok (.enter gf args) w)
  {encs : α -> Array Value} {Kp St : World -> World -> Prop} {Pf S Sp : List α -> Prop} {w0 : World} (hseq : qW F (n - 1) P gf lb encs Kp St Pf S Sp w0)
  (hKt : ∀ {A B C : World}, Kp A B -> Kp B C -> Kp A C) (hKb : ∀ (W : World) (l : Nat) (o' : Obj), w.heap.size <= l -> Kp W (W.putObj l o')) (hSo : ∀ A B, St A B -> KeepsOthers A B) (hb0 : Below w0.heap.size w0 w) (hps : ∀ x, (encs x).size = ps.size)
  (I : List α -> World -> Prop) (Ix : Code -> List α -> World -> Prop) (hI : OwnFrom w.heap.size I) (hIx : ∀ c, OwnFrom w.heap.size (Ix c)) (hIS : ∀ pre A B, I pre A -> St A B -> I pre B) (h0 : I [] w) (a₁ : α -> Act)
  (hassign : ∀ (l : Nat) (x : α) (W : World) (K : Act -> World -> Prop), K (a₁ x) W ->
    assign.wpIn (F.inRound l) (n - 1 - 1) P (Exit.then K (fun _ _ _ => False)) { tmps := (ps.zip (encs x)).foldl (fun t (p, v) => t.setIfInBounds p v) a.tmps, defers := [] } W)
  (hbody : ∀ (l : Nat) (pre : List α) (x : α) (W : World), Pf (pre ++ [x]) -> I pre W -> body.wpIn (F.inRound l) (n - 1 - 1) P (ownPostK Kp I Ix (pre ++ [x]) W) (a₁ x) W)
  (hdone : ∀ (D : Nat) (xs : List α) (W : World), w.heap.size <= D -> S xs -> I xs W -> W.heap[D]? = some (.deferred (some [])) -> Q .normal { a with defers := { target := .collected D, args := #[] } :: a.defers } W)
  (hstop : ∀ (D : Nat) (c : Code) (pre : List α) (W : World), w.heap.size <= D -> Sp pre -> Ix c pre W -> W.heap[D]? = some (.deferred (some [])) -> c.wpIn F n P Q { a with defers := { target := .collected D, args := #[] } :: a.defers } W) :
  (Code.rangeFunc g ps assign body).wpIn F n P Q a w := by
 refine wpIn_rangeFunc ?_; intro fn hfn; rw [hro]
 -- the loop's record in block L, the block of its deferred calls in block D
 obtain ⟨D, hD⟩ : ∃ D, w.heap.size = D := ⟨_, rfl⟩
 obtain ⟨rec, hrec⟩ : ∃ rec : LoopState -> Option Code -> Loop, rec = fun st pe => { state := st, pending := pe, fn, tmps := a.tmps, params := ps, assign, body, defers := D } := ⟨_, rfl⟩
 obtain ⟨W1, hW1⟩ : ∃ W1, (w.alloc (.deferred (some []))).alloc (.loop (rec .ready none)) = W1 := ⟨_, rfl⟩
 have hL1 : W1.heap[D + 1]? = some (.loop (rec .ready none)) := by
  rw [<- hW1, <- hD]; have := World.alloc_heap_new (w.alloc (.deferred (some []))) (.loop (rec .ready none)); rwa [World.size_alloc] at this
 have hK1 : W1.heap[D]? = some (.deferred (some [])) := by
  rw [<- hW1, <- hD]; exact (Below.heap_alloc _ _ _ (by simp)).trans (World.alloc_heap_new w _)
 have hI1 : I [] W1 := by rw [<- hW1]; exact hI.alloc _ (hI.alloc _ h0)
 have hb1 : Below w0.heap.size w0 W1 := by
  rw [<- hW1]; exact hb0.trans ((((Below.refl _ w).alloc ai _).alloc (by simp) _).mono hb0.size)
 refine ⟨D + 1, [{ target := .collected D, args := #[] }], W1, { target := .fn (.func gf) lb, args := #[.func (.yield (D + 1)) #[] #[]] }, W1, gf,
  #[.func (.yield (D + 1)) #[] #[]] ++ lb, W1, ?_, ?_, ?_, ?_, fun _ => h1, ?_⟩
 . rw [<- hW1, hrec, <- hD]; exact run_enterLoop_outer _ _ _ _ _
 . simp only [resolve, hg]
   simp [go_sem]
 . intro f' hf'; simp [Target.leads] at hf'; subst hf'; exact hFg
 . simp [invoke, go_sem, eg]
 . refine (hseq (D + 1)
     (fun pre W => I pre W /\ W.heap[D + 1]? = some (.loop (rec .ready none)) /\ W.heap[D]? = some (.deferred (some [])))
     (fun pre W => ∃ c, Ix c pre W /\ W.heap[D + 1]? = some (.loop (rec .done (some c))) /\ W.heap[D]? = some (.deferred (some [])))
     W1 hb1
     (fun pre A B hs hst => ⟨hIS pre A B hs.1 hst, (hSo A B hst).same _ _ hs.2.1 rfl, (hSo A B hst).same _ _ hs.2.2 rfl⟩)
     ?_ ⟨hI1, hL1, hK1⟩).mono ?_
   . rintro pre x W hpf ⟨hi, hl, hk⟩
     have hlt : D + 1 < W.heap.size := (Array.getElem?_eq_some_iff.1 hl).1; have hy := run_yield (P := P) (args := encs x) hl (by rw [hrec]; exact hps x); rw [hrec] at hy; refine ⟨fn, _, assign, body, hy, roundIn_of_wpIn hfn (hassign _ x W _ ⟨_, run_beginRound hl (by rw [hrec]), ?_⟩)⟩; obtain ⟨W2, hW2⟩ : ∃ W2, W.putObj (D + 1) (.loop { rec .ready none with state := .busy }) = W2 := ⟨_, rfl⟩
     have hl2 : W2.heap[D + 1]? = some (.loop { rec .ready none with state := .busy }) := by rw [<- hW2]; exact World.putObj_heap_same hlt
     have hk2 : W2.heap[D]? = some (.deferred (some [])) := by rw [<- hW2]; exact (World.putObj_heap_other (by omega)).trans hk
     have hw2 : Kp W W2 := by rw [<- hW2]; exact hKb _ _ _ (by omega)
     have hi2 : I pre W2 := by rw [<- hW2]; exact hI.putObj _ hi (by omega) hl rfl
     rw [hW2]; refine wpIn_mono (hbody _ pre x _ hpf hi2) ?_; have fin : ∀ (jump : Option Code) (W3 : World), KeepsOthers W2 W3 ->
       (Instr.endRound (D + 1) jump).run P W3 = .ok (.bool jump.isNone) (W3.putObj (D + 1) (.loop (rec (if jump.isNone then .ready else .done) jump))) ∧
       W3.heap[D + 1]? = some (.loop { rec .ready none with state := .busy }) ∧
       (W3.putObj (D + 1) (.loop (rec (if jump.isNone then .ready else .done) jump))).heap[D + 1]? = some (.loop (rec (if jump.isNone then .ready else .done) jump)) ∧
       (W3.putObj (D + 1) (.loop (rec (if jump.isNone then .ready else .done) jump))).heap[D]? = some (.deferred (some [])) := fun jump W3 hk3 => by
      have hl3 := hk3.same _ _ hl2 rfl; have := run_endRound (P := P) jump hl3; rw [hrec] at this ⊢; exact ⟨this, by rw [hrec] at hl3; exact hl3, World.putObj_heap_same (Array.getElem?_eq_some_iff.1 hl3).1, (World.putObj_heap_other (by omega)).trans (hk3.same _ _ hk2 rfl)⟩
     rintro e a3 W3 hp; cases e with
     | normal =>
       obtain ⟨hk3, hkp3, hi3⟩ := hp; obtain ⟨hr, hl3, hl4, hk4⟩ := fin none W3 hk3; exact ⟨_, _, hr, .inl ⟨rfl, ⟨hI.putObj _ hi3 (by omega) hl3 rfl, hl4, hk4⟩, hKt (hKt hw2 hkp3) (hKb _ _ _ (by omega))⟩⟩
     | ret =>
       obtain ⟨hk3, hi3⟩ := hp; obtain ⟨hr, hl3, hl4, hk4⟩ := fin (some .ret) W3 hk3; exact ⟨_, _, hr, .inr ⟨rfl, .ret, (hIx _).putObj _ hi3 (by omega) hl3 rfl, hl4, hk4⟩⟩
     | exit id =>
       obtain ⟨hk3, hi3⟩ := hp; obtain ⟨hr, hl3, hl4, hk4⟩ := fin (some (.exit id)) W3 hk3; exact ⟨_, _, hr, .inr ⟨rfl, .exit id, (hIx _).putObj _ hi3 (by omega) hl3 rfl, hl4, hk4⟩⟩
     | goto t =>
       obtain ⟨hk3, hi3⟩ := hp; obtain ⟨hr, hl3, hl4, hk4⟩ := fin (some (.goto t)) W3 hk3; exact ⟨_, _, hr, .inr ⟨rfl, .goto t, (hIx _).putObj _ hi3 (by omega) hl3 rfl, hl4, hk4⟩⟩
     | panic ch => exact hp.elim
     | outgrown => exact hp.elim
   . rintro e W2 ⟨⟨v, rfl⟩, (⟨xs, hS, hi, hl, hk⟩ | ⟨pre, hSp, c, hi, hl, hk⟩)⟩
     . exact ⟨none, _, by have := run_endLoop (P := P) hl (by rw [hrec]; simp); rw [hrec] at this; exact this, hdone _ xs _ (by omega) hS (hI.putObj _ hi (by omega) hl rfl) ((World.putObj_heap_other (by omega)).trans hk)⟩
     . exact ⟨some c, _, by have := run_endLoop (P := P) hl (by rw [hrec]; simp); rw [hrec] at this; exact this, hstop _ c pre _ (by omega) hSp ((hIx c).putObj _ hi (by omega) hl rfl) ((World.putObj_heap_other (by omega)).trans hk)⟩
end
theorem aI {p : Prop} (h : Hid p) : p := h
theorem aC {p : Prop} (h : p) : Hid p := h
section
variable {P : Program} {w : World} {base size n : Nat} {e : TypeId} {v : Value} {xs : List Value}
theorem zy (h : w.ownsRow base e size v n xs) : ∃ A c, v = .slice A n c /\ n <= c /\ c <= maxLen := by
 rcases h.2 with ⟨rfl, rfl⟩ | ⟨g, cap, cur, rfl, _, _, h1, h2, _⟩
 . exact ⟨none, 0, rfl, Nat.le_refl _, Nat.zero_le _⟩
 . exact ⟨_, cap, rfl, h1, h2⟩
theorem zu {base' size' n' : Nat} {e' : TypeId} {v' : Value} {xs' : List Value} (h : w.ownsRow base e size v n xs) (h' : w.ownsRow base' e' size' v' n' xs') (hne : e' ≠ e) : v'.ownBlock = none ∨ v'.ownBlock ≠ v.ownBlock := by
 rcases h'.2 with ⟨rfl, _⟩ | ⟨g', cap', cur', rfl, _, hh', _⟩
 . exact .inl rfl
 . rcases h.2 with ⟨rfl, _⟩ | ⟨g, cap, cur, rfl, _, hh, _⟩
   . exact .inr (by simp [Value.ownBlock])
   . refine .inr fun he => ?_
     simp only [Value.ownBlock, Option.some.injEq] at he; subst he; rw [hh] at hh'; injection hh' with hh'; injection hh' with _ ht; exact hne ht.symm
theorem rX (h : w.ownsRow base e size v n xs) : ∀ k, v.ownBlock = some k -> base <= k := fun k hk => (h.lt k hk).1
theorem kz (t ty : TypeId) (i : TypeInfo) (z : Value) (bytes : Nat) (ht : P.underlying t = some (.slice e)) (hi : P.info? e = some i) (hz : i.zero = some z)
  (hsize : i.size = size) (hby : i.bytes = bytes) (hzs : z.cells.size = size) (hsz : 0 < size) (hown : w.ownsRow base e size v n xs)
  {B : Nat} {A : OA} {m c : Nat} {ys : List Value} (hsl : Sl w B size A m ys) (h1 : ∀ u ∈ ys, u.oneCell' = true)
  (h63 : n + m <= maxLen) (hbytes : (n + m) * bytes <= 140737488355328) (hbase : base <= w.heap.size) :
  ∃ A' c' w', (Builtin.append_ #[t, t] ty #[v, .slice A m c]).run P w = .ok (.slice A' (n + m) c') w' /\ w'.ownsRow base e size (.slice A' (n + m) c') (n + m) (xs ++ ys) /\ w.grownBy w' v.ownBlock /\ n + m <= c' /\ c' <= maxLen := by
 have key : ∃ v' w', (Builtin.append_ #[t, t] ty #[v, .slice A m c]).run P w = .ok v' w' /\ w'.ownsRow base e size v' (n + m) (xs ++ ys) /\ w.grownBy w' v.ownBlock := by
  cases A with
  | none =>
    have hm : m = 0 := by
     rcases Nat.eq_zero_or_pos m with h | h
     . exact h
     . obtain ⟨b, off, e1, _⟩ := hsl.2 h; cases e1
    subst hm; have hy : ys = [] := by
     have := hsl.1; rw [Nat.zero_mul] at this; exact List.length_eq_zero_iff.1 this
    subst hy; refine ⟨v, w, ?_, by simpa using hown, ⟨rfl, rfl, rfl, Nat.le_refl _, fun _ _ _ => rfl⟩⟩; rcases hown.2 with ⟨rfl, rfl⟩ | ⟨g, cap, cur, rfl, _, _, hnc, _⟩
    . simp [Builtin.append_, run_underlying ht, sizeOf, typeInfo, hi, Builtin.lenOf, Builtin.firstCells]
    . simp [Builtin.append_, run_underlying ht, sizeOf, typeInfo, hi, Builtin.lenOf, Builtin.firstCells, hnc, storeCells]
  | some ad =>
    have hc : ∀ j u, ys[j]? = some u -> w.cell? (ad.add j) = some u := by
     intro j u hu; have hm : 0 < m := by
      rcases Nat.eq_zero_or_pos m with h | h
      . subst h
        have := hsl.1; rw [Nat.zero_mul] at this; rw [List.length_eq_zero_iff.1 this] at hu; cases hu
      . exact h
     obtain ⟨b, off, e1, _, hcell⟩ := hsl.2 hm; cases e1
     rw [Addr.add_lit]; exact hcell j u hu
    obtain ⟨v', w', hr, ho, hg, _⟩ := run_append_own (P := P) w base t ty e i z size bytes ht hi hz hsize hby hzs hsz v n xs hown ad m c ys hsl.1 hc h1 h63 hbytes hbase; exact ⟨v', w', hr, ho, hg⟩
 obtain ⟨v', w', hr, ho, hg⟩ := key; obtain ⟨A', c', rfl, hc1, hc2⟩ := zy ho; exact ⟨A', c', w', hr, ho, hg, hc1, hc2⟩
theorem kG (t : TypeId) (i : TypeInfo) (ht : P.underlying t = some (.slice e)) (hi : P.info? e = some i) (A : OA) (n c k : Nat) (hk : k <= c) (w : World) :
  (Instr.sliceAt t (.slice A n c) none (some (.int .i64 k)) none).run P w = .ok (.slice A k c) w := by
 have hA : Option.map (fun x : Addr => x.add 0) A = A := by cases A <;> simp [Addr.add]
 simp [Instr.sliceAt, Instr.slice, run_underlying ht, Instr.sliceBounds, Instr.sliceBound, asIntOf, hk, sizeOf, typeInfo, hi, hA]
theorem rF (t : TypeId) (i : TypeInfo) (ht : P.underlying t = some (.slice e)) (hi : P.info? e = some i) (hsz : i.size = size) (A : OA) (n c k : Nat) (hk : k <= n) (hnc : n <= c) :
  ∃ Ak, (∀ w : World, (Instr.sliceAt t (.slice A n c) (some (.int .i64 k)) none none).run P w = .ok (.slice Ak (n - k) (c - k)) w) /\ ∀ (w : World) (B : Nat) (xs : List Value), Sl w B size A n xs -> Sl w B size Ak (n - k) (xs.drop (k * size)) := by
 refine ⟨if c = k then A else A.map (·.add (k * size)), fun w => ?_, fun w B xs h => ?_⟩
 . simp [Instr.sliceAt, Instr.slice, run_underlying ht, Instr.sliceBounds, Instr.sliceBound, asIntOf, hk, sizeOf, typeInfo, hi, hsz]
 . refine ⟨by rw [List.length_drop, h.1, Nat.sub_mul], fun hn => ?_⟩
   obtain ⟨b, off, rfl, hb, hc⟩ := h.2 (by omega); rw [if_neg (by omega)]; refine ⟨b, off + k * size, by simp [Addr.add_lit], hb, fun j u hu => ?_⟩; rw [Nat.add_assoc]; exact hc _ u (by rw [List.getElem?_drop] at hu; exact hu)
end
section
open Go.Maps
def less (s t : ByteArray) : Bool := Op.bytesLess s.data.toList t.data.toList
theorem iM {s t : ByteArray} (h : s.data.toList = t.data.toList) : s = t := by
 cases s; cases t; congr 1; exact Array.toList_inj.1 h
theorem zJ (a b : List UInt8) : (Lit.string a).sameKey (.string b) = (a == b) := rfl
theorem r9 : ∀ (a : List UInt8), Op.bytesLess a a = false
 | [] => rfl
 | a :: r => by simp [Op.bytesLess, r9 r]
theorem tL : ∀ (a b c : List UInt8), Op.bytesLess a b = true -> Op.bytesLess b c = true -> Op.bytesLess a c = true
 | [], [], _ => by simp [Op.bytesLess]
 | [], _ :: _, [] => by simp [Op.bytesLess]
 | [], _ :: _, _ :: _ => by simp [Op.bytesLess]
 | _ :: _, [], _ => by simp [Op.bytesLess]
 | _ :: _, _ :: _, [] => by simp [Op.bytesLess]
 | a :: r, b :: s, c :: t => by
   simp only [Op.bytesLess, Bool.or_eq_true, Bool.and_eq_true, decide_eq_true_eq, beq_iff_eq]; rintro (h1 | ⟨rfl, h1⟩) (h2 | ⟨rfl, h2⟩)
   . exact .inl (UInt8.lt_trans h1 h2)
   . exact .inl h1
   . exact .inl h2
   . exact .inr ⟨rfl, tL r s t h1 h2⟩
theorem uh : ∀ (a b : List UInt8), Op.bytesLess a b = false -> Op.bytesLess b a = false -> a = b
 | [], [] => fun _ _ => rfl
 | [], _ :: _ => by simp [Op.bytesLess]
 | _ :: _, [] => by simp [Op.bytesLess]
 | a :: r, b :: s => by
   simp only [Op.bytesLess, Bool.or_eq_false_iff, Bool.and_eq_false_iff, decide_eq_false_iff_not, beq_eq_false_iff_ne]; rintro ⟨h1, h2⟩ ⟨h3, h4⟩; have e : a = b := by
    apply UInt8.toNat_inj.1
    rw [UInt8.lt_iff_toNat_lt] at h1 h3; omega
   subst e; rcases h2 with h2 | h2
   . exact absurd rfl h2
   . rcases h4 with h4 | h4
     . exact absurd rfl h4
     . rw [uh r s h2 h4]
end
def Asc (l : List ByteArray) : Prop := l.Pairwise (fun a b => less a b = true)
theorem eG (a : ByteArray) : less a a = false := r9 _
theorem iy {a b c : ByteArray} (h : less a b = true) (h' : less b c = true) : less a c = true := tL _ _ _ h h'
theorem kJ {a b : ByteArray} (h : less a b = false) (h' : less b a = false) : a = b := iM (uh _ _ h h')
theorem iN {a b : ByteArray} (h : less a b = true) : a ≠ b := by rintro rfl; rw [eG] at h; cases h
theorem sH {a b : ByteArray} (h : less a b = true) : less b a = false := by
 cases h' : less b a with
 | false => rfl
 | true => have := iy h h'; rw [eG] at this; cases this
theorem Asc.tail {a : ByteArray} {l : List ByteArray} (h : Asc (a :: l)) : Asc l := (List.pairwise_cons.1 h).2
theorem Asc.nodup {l : List ByteArray} (h : Asc l) : l.Nodup := List.Pairwise.imp (fun h => iN h) h
theorem vR : ∀ {l m : List ByteArray}, Asc l -> Asc m -> (∀ x, x ∈ l ↔ x ∈ m) -> l = m
 | [], [], _, _, _ => rfl
 | [], b :: m, _, _, h => by have := (h b).2 (by simp); cases this
 | a :: l, [], _, _, h => by have := (h a).1 (by simp); cases this
 | a :: l, b :: m, hl, hm, h => by
   have ha := List.pairwise_cons.1 hl; have hb := List.pairwise_cons.1 hm; have e : a = b := by
    rcases List.mem_cons.1 ((h a).1 (by simp)) with e | e
    . exact e
    . rcases List.mem_cons.1 ((h b).2 (by simp)) with e' | e'
      . exact e'.symm
      . have h1 := hb.1 a e
        have h2 := ha.1 b e'; have := iy h1 h2; rw [eG] at this; cases this
   subst e
   congr 1
   refine vR ha.2 hb.2 fun x => ⟨fun hx => ?_, fun hx => ?_⟩
   . rcases List.mem_cons.1 ((h x).1 (by simp [hx])) with e | e
     . subst e; have := ha.1 x hx; rw [eG] at this; cases this
     . exact e
   . rcases List.mem_cons.1 ((h x).2 (by simp [hx])) with e | e
     . subst e; have := hb.1 x hx; rw [eG] at this; cases this
     . exact e
def dh : List ByteArray -> ByteArray -> List ByteArray
 | [], s => [s]
 | r :: l, s => if less r s then r :: dh l s else if r = s then r :: l else s :: r :: l
theorem og : ∀ (l : List ByteArray) (s x : ByteArray), x ∈ dh l s ↔ x ∈ l ∨ x = s
 | [], s, x => by simp [dh]
 | r :: l, s, x => by
   simp only [dh]; by_cases h1 : less r s = true
   . rw [if_pos h1, List.mem_cons, og l s x, List.mem_cons]
     constructor
     . rintro (e | e | e)
       . exact .inl (.inl e)
       . exact .inl (.inr e)
       . exact .inr e
     . rintro ((e | e) | e)
       . exact .inl e
       . exact .inr (.inl e)
       . exact .inr (.inr e)
   . rw [if_neg h1]
     by_cases h2 : r = s
     . rw [if_pos h2]
       constructor
       . exact .inl
       . rintro (e | e)
         . exact e
         . rw [e, <- h2]; simp
     . rw [if_neg h2, List.mem_cons]
       constructor
       . rintro (e | e)
         . exact .inr e
         . exact .inl e
       . rintro (e | e)
         . exact .inr e
         . exact .inl e
theorem uR : ∀ {l : List ByteArray} (s : ByteArray), Asc l -> Asc (dh l s)
 | [], s, _ => List.pairwise_singleton _ _
 | r :: l, s, h => by
   have hc := List.pairwise_cons.1 h; simp only [dh]; by_cases h1 : less r s = true
   . rw [if_pos h1]
     refine List.pairwise_cons.2 ⟨fun x hx => ?_, uR s hc.2⟩; rcases (og l s x).1 hx with e | e
     . exact hc.1 x e
     . rw [e]; exact h1
   . rw [if_neg h1]
     by_cases h2 : r = s
     . rw [if_pos h2]; exact h
     . rw [if_neg h2]
       have hsr : less s r = true := by
        cases hx : less s r with
        | true => rfl
        | false => exact absurd (kJ (by simpa using h1) hx) h2
       refine List.pairwise_cons.2 ⟨fun x hx => ?_, h⟩; rcases List.mem_cons.1 hx with e | e
       . rw [e]; exact hsr
       . exact iy hsr (hc.1 x e)
def dC : List ByteArray -> ByteArray -> Nat
 | [], _ => 0
 | r :: l, s => if less r s then dC l s + 1 else 0
theorem uY : ∀ {l : List ByteArray} {s : ByteArray}, l[dC l s]? = some s -> dh l s = l
 | [], s, h => by simp at h
 | r :: l, s, h => by
   simp only [dh]; by_cases h1 : less r s = true
   . have e : dC (r :: l) s = dC l s + 1 := by simp [dC, h1]
     rw [e, List.getElem?_cons_succ] at h; rw [if_pos h1, uY h]
   . have e : dC (r :: l) s = 0 := by simp [dC, h1]
     rw [e, List.getElem?_cons_zero] at h; rw [if_neg h1, if_pos (by simpa using h)]
theorem uP : ∀ {l : List ByteArray} {s : ByteArray}, l[dC l s]? ≠ some s -> dh l s = l.take (dC l s) ++ [s] ++ l.drop (dC l s)
 | [], s, _ => by simp [dh]
 | r :: l, s, h => by
   simp only [dh]; by_cases h1 : less r s = true
   . have e : dC (r :: l) s = dC l s + 1 := by simp [dC, h1]
     rw [e, List.getElem?_cons_succ] at h; rw [if_pos h1, uP h, e]; simp
   . have e : dC (r :: l) s = 0 := by simp [dC, h1]
     rw [e, List.getElem?_cons_zero] at h; rw [if_neg h1, if_neg (by simpa using h), e]; simp
end Go.Proofs.YtlcecobipgmafaaGreatDoor
namespace Go.Proofs
open Go.Shelf
def Tryz.lays169_ren : Go.Shelf.Ren := ⟨fun | 169 => 164 | n => n, fun | 70 => 217 | 9 => 9 | 0 => 0 | 72 => 219 | 37 => 178 | 127 => 236 | 3 => 3 | 5 => 5 | n => n, fun | n => n⟩
theorem Tryz.lays169 : Go.Proofs.Lays.n169 Tryz.prog Tryz.lays169_ren := {
 mixed := by kernel_rfl
 f169 := Tryz.func164.trans (congrArg some (by kernel_rfl))
 t0 := Tryz.underlying0
 a0 := Tryz.isAgg0
 z0 := Tryz.sizeOf0
 v0 := Tryz.zeroValue0
 t3 := Tryz.underlying3
 a3 := Tryz.isAgg3
 z3 := Tryz.sizeOf3
 v3 := Tryz.zeroValue3
 t9 := Tryz.underlying9
 a9 := Tryz.isAgg9
 z9 := Tryz.sizeOf9
 v9 := Tryz.zeroValue9
 t37 := Tryz.underlying178
 a37 := Tryz.isAgg178
 z37 := Tryz.sizeOf178
 v37 := Tryz.zeroValue178
 t70 := Tryz.underlying217
 a70 := Tryz.isAgg217
 z70 := Tryz.sizeOf217
 v70 := Tryz.zeroValue217
 t72 := Tryz.underlying219
 a72 := Tryz.isAgg219
 z72 := Tryz.sizeOf219
 v72 := Tryz.zeroValue219
 t127 := Tryz.underlying236
 a127 := Tryz.isAgg236
 z127 := Tryz.sizeOf236
 v127 := Tryz.zeroValue236 }
theorem Tryz.Builder_Extra_169 : Builder.Extra Tryz.prog Tryz.lays169_ren := {
 sizeBuilder := by kernel_rfl
 liesBuilder := by kernel_rfl
 t5 := Tryz.underlying5
 a5 := Tryz.isAgg5
 z5 := Tryz.sizeOf5
 v5 := Tryz.zeroValue5
 infoByte := by kernel_rfl
 cellsByte := by kernel_rfl
 sizeByte := by kernel_rfl
 neB5 := by decide }
open Go.RowKit in
theorem Tryz.Builder_String_any (B b : Nat) (l : List UInt8) (w : World) (h : Lib.IsBuilder 219 5 B b (Lib.byteCells l) w) (hBw : B ≤ w.heap.size) :
  Calls Tryz.prog 164 #[.pointer (some ⟨b, 0, none⟩)] w fun e w' => e = .returned (.string ⟨l.toArray⟩) ∧ Below B w w' := Any.Builder_String_any Tryz.lays169 Tryz.Builder_Extra_169 B b l w h hBw
def Tryz.lays219_ren : Go.Shelf.Ren := ⟨fun | 219 => 151 | 217 => 172 | 225 => 173 | 224 => 174 | 267 => 175 | 266 => 185 | 314 => 186 | n => n, fun | 9 => 9 | 3 => 3 | 4 => 4 | 5 => 5 | 46 => 114 | 146 => 237 | 51 => 155 | n => n, fun | 1 => 0 | n => n⟩
theorem Tryz.lays219 : Go.Proofs.Lays.n219 Tryz.prog Tryz.lays219_ren := {
 mixed := by kernel_rfl
 f217 := Tryz.func172.trans (congrArg some (by kernel_rfl))
 f219 := Tryz.func151.trans (congrArg some (by kernel_rfl))
 f224 := Tryz.func174.trans (congrArg some (by kernel_rfl))
 f225 := Tryz.func173.trans (congrArg some (by kernel_rfl))
 f266 := Tryz.func185.trans (congrArg some (by kernel_rfl))
 f267 := Tryz.func175.trans (congrArg some (by kernel_rfl))
 f314 := Tryz.func186.trans (congrArg some (by kernel_rfl))
 t3 := Tryz.underlying3
 a3 := Tryz.isAgg3
 z3 := Tryz.sizeOf3
 v3 := Tryz.zeroValue3
 t4 := Tryz.underlying4
 a4 := Tryz.isAgg4
 z4 := Tryz.sizeOf4
 v4 := Tryz.zeroValue4
 t5 := Tryz.underlying5
 a5 := Tryz.isAgg5
 z5 := Tryz.sizeOf5
 v5 := Tryz.zeroValue5
 t9 := Tryz.underlying9
 a9 := Tryz.isAgg9
 z9 := Tryz.sizeOf9
 v9 := Tryz.zeroValue9
 t46 := Tryz.underlying114
 a46 := Tryz.isAgg114
 z46 := Tryz.sizeOf114
 v46 := Tryz.zeroValue114
 t51 := Tryz.underlying155
 a51 := Tryz.isAgg155
 z51 := Tryz.sizeOf155
 v51 := Tryz.zeroValue155
 t146 := Tryz.underlying237
 a146 := Tryz.isAgg237
 z146 := Tryz.sizeOf237
 v146 := Tryz.zeroValue237
 g1 := by kernel_rfl }
open Go.RowKit Go.Lib in
theorem Tryz.stringslite_Index_one (s : ByteArray) (c : UInt8) (w : World) :
  Calls Tryz.prog 151 #[.string s, .string ⟨#[c]⟩] w fun e w' => e = .returned (.int .i64 (Lib.indexByte s.data.toList c)) ∧ w' = w := Any.stringslite_Index_one Tryz.lays219 s c w
def Tryz.lays143_ren : Go.Shelf.Ren := ⟨fun | 143 => 171 | 219 => 151 | 217 => 172 | 225 => 173 | 224 => 174 | 267 => 175 | 266 => 185 | 314 => 186 | n => n, fun | 9 => 9 | 3 => 3 | 4 => 4 | 5 => 5 | 46 => 114 | 146 => 237 | 51 => 155 | n => n, fun | 1 => 0 | n => n⟩
theorem Tryz.lays143 : Go.Proofs.Lays.n143 Tryz.prog Tryz.lays143_ren := {
 mixed := by kernel_rfl
 f143 := Tryz.func171.trans (congrArg some (by kernel_rfl))
 f217 := Tryz.func172.trans (congrArg some (by kernel_rfl))
 f219 := Tryz.func151.trans (congrArg some (by kernel_rfl))
 f224 := Tryz.func174.trans (congrArg some (by kernel_rfl))
 f225 := Tryz.func173.trans (congrArg some (by kernel_rfl))
 f266 := Tryz.func185.trans (congrArg some (by kernel_rfl))
 f267 := Tryz.func175.trans (congrArg some (by kernel_rfl))
 f314 := Tryz.func186.trans (congrArg some (by kernel_rfl))
 t3 := Tryz.underlying3
 a3 := Tryz.isAgg3
 z3 := Tryz.sizeOf3
 v3 := Tryz.zeroValue3
 t4 := Tryz.underlying4
 a4 := Tryz.isAgg4
 z4 := Tryz.sizeOf4
 v4 := Tryz.zeroValue4
 t5 := Tryz.underlying5
 a5 := Tryz.isAgg5
 z5 := Tryz.sizeOf5
 v5 := Tryz.zeroValue5
 t9 := Tryz.underlying9
 a9 := Tryz.isAgg9
 z9 := Tryz.sizeOf9
 v9 := Tryz.zeroValue9
 t46 := Tryz.underlying114
 a46 := Tryz.isAgg114
 z46 := Tryz.sizeOf114
 v46 := Tryz.zeroValue114
 t51 := Tryz.underlying155
 a51 := Tryz.isAgg155
 z51 := Tryz.sizeOf155
 v51 := Tryz.zeroValue155
 t146 := Tryz.underlying237
 a146 := Tryz.isAgg237
 z146 := Tryz.sizeOf237
 v146 := Tryz.zeroValue237
 g1 := by kernel_rfl }
open Go.RowKit Go.Lib in
theorem Tryz.strings_Index_one (s : ByteArray) (c : UInt8) (w : World) :
  Calls Tryz.prog 171 #[.string s, .string ⟨#[c]⟩] w fun e w' => e = .returned (.int .i64 (Lib.indexByte s.data.toList c)) ∧ w' = w := Any.strings_Index_one Tryz.lays143 s c w
def Tryz.lays190_ren : Go.Shelf.Ren := ⟨fun | 190 => 111 | 125 => 64 | 258 => 137 | 128 => 98 | 129 => 99 | 302 => 152 | 303 => 153 | 304 => 154 | 305 => 155 | 306 => 156 | 307 => 157 | 308 => 158 | 309 => 159 | 310 => 160 | 333 => 176 | 329 => 124 | 330 => 125 | 334 => 177 | 335 => 178 | 336 => 179 | 344 => 187 | n => n, fun | 31 => 169 | 9 => 9 | 3 => 3 | 46 => 114 | 0 => 0 | 51 => 155 | 53 => 40 | 4 => 4 | 183 => 149 | 182 => 148 | 131 => 82 | 5 => 5 | 218 => 187 | 222 => 191 | 228 => 204 | 229 => 205 | n => n, fun | n => n⟩
theorem Tryz.lays190 : Go.Proofs.Lays.n190 Tryz.prog Tryz.lays190_ren := {
 mixed := by kernel_rfl
 f125 := Tryz.func64.trans (congrArg some (by kernel_rfl))
 f128 := Tryz.func98.trans (congrArg some (by kernel_rfl))
 f129 := Tryz.func99.trans (congrArg some (by kernel_rfl))
 f190 := Tryz.func111.trans (congrArg some (by kernel_rfl))
 f258 := Tryz.func137.trans (congrArg some (by kernel_rfl))
 f302 := Tryz.func152.trans (congrArg some (by kernel_rfl))
 f303 := Tryz.func153.trans (congrArg some (by kernel_rfl))
 f304 := Tryz.func154.trans (congrArg some (by kernel_rfl))
 f305 := Tryz.func155.trans (congrArg some (by kernel_rfl))
 f306 := Tryz.func156.trans (congrArg some (by kernel_rfl))
 f307 := Tryz.func157.trans (congrArg some (by kernel_rfl))
 f308 := Tryz.func158.trans (congrArg some (by kernel_rfl))
 f309 := Tryz.func159.trans (congrArg some (by kernel_rfl))
 f310 := Tryz.func160.trans (congrArg some (by kernel_rfl))
 f329 := Tryz.func124.trans (congrArg some (by kernel_rfl))
 f330 := Tryz.func125.trans (congrArg some (by kernel_rfl))
 f333 := Tryz.func176.trans (congrArg some (by kernel_rfl))
 f334 := Tryz.func177.trans (congrArg some (by kernel_rfl))
 f335 := Tryz.func178.trans (congrArg some (by kernel_rfl))
 f336 := Tryz.func179.trans (congrArg some (by kernel_rfl))
 f344 := Tryz.func187.trans (congrArg some (by kernel_rfl))
 t0 := Tryz.underlying0
 a0 := Tryz.isAgg0
 z0 := Tryz.sizeOf0
 v0 := Tryz.zeroValue0
 t3 := Tryz.underlying3
 a3 := Tryz.isAgg3
 z3 := Tryz.sizeOf3
 v3 := Tryz.zeroValue3
 t4 := Tryz.underlying4
 a4 := Tryz.isAgg4
 z4 := Tryz.sizeOf4
 v4 := Tryz.zeroValue4
 t5 := Tryz.underlying5
 a5 := Tryz.isAgg5
 z5 := Tryz.sizeOf5
 v5 := Tryz.zeroValue5
 t9 := Tryz.underlying9
 a9 := Tryz.isAgg9
 z9 := Tryz.sizeOf9
 v9 := Tryz.zeroValue9
 t31 := Tryz.underlying169
 a31 := Tryz.isAgg169
 z31 := Tryz.sizeOf169
 v31 := Tryz.zeroValue169
 t46 := Tryz.underlying114
 a46 := Tryz.isAgg114
 z46 := Tryz.sizeOf114
 v46 := Tryz.zeroValue114
 t51 := Tryz.underlying155
 a51 := Tryz.isAgg155
 z51 := Tryz.sizeOf155
 v51 := Tryz.zeroValue155
 t53 := Tryz.underlying40
 a53 := Tryz.isAgg40
 z53 := Tryz.sizeOf40
 v53 := Tryz.zeroValue40
 t131 := Tryz.underlying82
 a131 := Tryz.isAgg82
 z131 := Tryz.sizeOf82
 v131 := Tryz.zeroValue82
 t182 := Tryz.underlying148
 a182 := Tryz.isAgg148
 z182 := Tryz.sizeOf148
 v182 := Tryz.zeroValue148
 t183 := Tryz.underlying149
 a183 := Tryz.isAgg149
 z183 := Tryz.sizeOf149
 v183 := Tryz.zeroValue149
 t218 := Tryz.underlying187
 a218 := Tryz.isAgg187
 z218 := Tryz.sizeOf187
 v218 := Tryz.zeroValue187
 t222 := Tryz.underlying191
 a222 := Tryz.isAgg191
 z222 := Tryz.sizeOf191
 v222 := Tryz.zeroValue191
 t228 := Tryz.underlying204
 a228 := Tryz.isAgg204
 z228 := Tryz.sizeOf204
 v228 := Tryz.zeroValue204
 t229 := Tryz.underlying205
 a229 := Tryz.isAgg205
 z229 := Tryz.sizeOf205
 v229 := Tryz.zeroValue205 }
open Go.Sort Go.RowKit in
theorem Tryz.slices_Sort_string (blk off cap : Nat) (ss : List (List UInt8)) (w : World) (hH : Holds encStr w blk off ss.toArray) (hblk : blk < w.heap.size) (hsz : ss.length < 4611686018427387904) :
  Calls Tryz.prog 111 #[.slice (some ⟨blk, off, none⟩) ss.length cap] w fun e w' =>
   e = .returned (.tuple #[]) ∧ ∃ n os, w' = grow (putRow encStr (Sort.ahead w n) blk off (ss.mergeSort fun x y => decide (x ≤ y)).toArray) os := Any.slices_Sort_string Tryz.lays190 blk off cap ss w hH hblk hsz
def Tryz.lays99_ren : Go.Shelf.Ren := ⟨fun | 99 => 76 | 206 => 119 | n => n, fun | 9 => 9 | 4 => 4 | 3 => 3 | n => n, fun | n => n⟩
theorem Tryz.lays99 : Go.Proofs.Lays.n99 Tryz.prog Tryz.lays99_ren := {
 mixed := by kernel_rfl
 f99 := Tryz.func76.trans (congrArg some (by kernel_rfl))
 f206 := Tryz.func119.trans (congrArg some (by kernel_rfl))
 t3 := Tryz.underlying3
 a3 := Tryz.isAgg3
 z3 := Tryz.sizeOf3
 v3 := Tryz.zeroValue3
 t4 := Tryz.underlying4
 a4 := Tryz.isAgg4
 z4 := Tryz.sizeOf4
 v4 := Tryz.zeroValue4
 t9 := Tryz.underlying9
 a9 := Tryz.isAgg9
 z9 := Tryz.sizeOf9
 v9 := Tryz.zeroValue9 }
open Go.RowKit Go.Lib in
theorem Tryz.strings_HasPrefix (s p : ByteArray) (w : World) :
  Calls Tryz.prog 76 #[.string s, .string p] w fun e w' => e = .returned (.bool (Lib.hasPrefix s.data.toList p.data.toList)) ∧ w' = w := Any.strings_HasPrefix Tryz.lays99 s p w
open Go.RowKit Go.Sort in
theorem Tryz.slices_Sort_string_none (p : Option Addr) (cap : Nat) (w : World) :
  Calls Tryz.prog 111 #[.slice p 0 cap] w fun e w' => e = .returned (.tuple #[]) ∧ w' = w := Any.slices_Sort_string_none Tryz.lays190 p cap w
end Go.Proofs
namespace Go.Proofs.YtlcecobipgmafaaGreatDoor
open Go.RowKit
section
open Go.RowKit Go.Sort
def bl (s : ByteArray) : List UInt8 := s.data.toList
def ub (l : List UInt8) : ByteArray := ⟨l.toArray⟩
theorem jV (s : ByteArray) : ub (bl s) = s := by cases s; simp [ub, bl]
theorem xP (l : List UInt8) : bl (ub l) = l := by simp [ub, bl]
theorem wG : ∀ (a b : List UInt8), decide (a <= b) = !Op.bytesLess b a
 | [], b => by cases b <;> simp [Op.bytesLess]
 | a :: r, [] => by simp [Op.bytesLess]
 | a :: r, b :: s => by
   have ih := wG r s; rw [Bool.eq_iff_iff] at ih ⊢; simp only [decide_eq_true_eq, Op.bytesLess, Bool.not_eq_true', Bool.or_eq_false_iff, Bool.and_eq_false_iff, decide_eq_false_iff_not, beq_eq_false_iff_ne, List.cons_le_cons_iff] at ih ⊢; constructor
   . rintro (h | ⟨h, h'⟩)
     . exact ⟨fun h2 => absurd (UInt8.lt_trans h h2) (UInt8.lt_irrefl _), .inl fun e => by subst e; exact absurd h (UInt8.lt_irrefl _)⟩
     . subst h; exact ⟨UInt8.lt_irrefl _, .inr (ih.1 h')⟩
   . rintro ⟨h1, h2⟩
     by_cases e : a = b
     . subst e
       rcases h2 with h2 | h2
       . exact absurd rfl h2
       . exact .inr ⟨rfl, ih.2 h2⟩
     . left
       rw [UInt8.lt_iff_toNat_lt] at h1 ⊢; have : a.toNat ≠ b.toNat := fun h => e (UInt8.toNat_inj.1 h); omega
def Srt (l : List ByteArray) : Prop := l.Pairwise (fun a b => less b a = false)
theorem Srt.asc {l : List ByteArray} (h : Srt l) (hn : l.Nodup) : Asc l := by
 unfold Srt at h; unfold Asc; have := h.and hn; refine this.imp ?_; rintro a b ⟨h1, h2⟩; cases h3 : less a b with
 | true => rfl
 | false => exact absurd (kJ h3 h1) h2
def fB (l : List ByteArray) : List ByteArray := ((l.map bl).mergeSort fun x y => decide (x <= y)).map ub
theorem nT (l : List ByteArray) : (fB l).Perm l := by
 have h := (List.mergeSort_perm (l.map bl) fun x y => decide (x <= y)).map ub; rw [List.map_map] at h; have e : l.map (ub ∘ bl) = l := by
  conv => rhs; rw [<- List.map_id l]
  exact List.map_congr_left fun x _ => jV x
 rwa [e] at h
theorem Cn (l : List ByteArray) : Srt (fB l) := by
 unfold Srt fB; rw [List.pairwise_map]; have h := List.pairwise_mergeSort (le := fun x y : List UInt8 => decide (x <= y)) (fun a b c h1 h2 => by simp only [decide_eq_true_eq] at *; exact List.le_trans h1 h2) (fun a b => by simp only [Bool.or_eq_true, decide_eq_true_eq]; exact List.le_total a b) (l.map bl); refine h.imp ?_; intro a b h1; rw [wG] at h1; show Op.bytesLess (bl (ub b)) (bl (ub a)) = false; rw [xP, xP]
 simpa using h1
theorem CF (l : List ByteArray) : (fB l).length = l.length := (nT l).length_eq
theorem CX (l : List ByteArray) (x : ByteArray) : x ∈ fB l ↔ x ∈ l := (nT l).mem_iff
theorem BZ {l : List ByteArray} (h : l.Nodup) : Asc (fB l) := (Cn l).asc ((nT l).nodup_iff.2 h)
theorem Dk (l : List ByteArray) (j : Nat) (x : ByteArray) (h : l[j]? = some x) : (strs l)[j]? = some (.string x) := by simp [strs, h]
theorem zi (off n : Nat) (d : Array (List UInt8)) (cur : Array Value) (hd : d.size = n) (ho : off = 0) (hn : n <= cur.size) : (putCells encStr off d cur).toList.take n = d.toList.map encStr := by
 subst ho hd; apply List.ext_getElem?
 intro k; rw [List.getElem?_take]; by_cases hk : k < d.size
 . have hk2 : k < cur.size := by omega
   rw [if_pos hk, List.getElem?_map]; simp [putCells, hk, hk2]
 . rw [if_neg hk, List.getElem?_eq_none (by simp; omega)]
theorem Cc (base n c : Nat) (A : OA) (l : List ByteArray) (w : World) (h : w.ownsRow base 9 1 (.slice A n c) n (strs l)) (hn : n <= 1000000000) :
  Calls Tryz.prog 111 #[.slice A n c] w fun e w' => e = .returned (.tuple #[]) /\ w'.ownsRow base 9 1 (.slice A n c) n (strs (fB l)) /\ w.grownBy w' (Value.slice A n c).ownBlock := by
 have hl : l.length = n := by have := h.1; rw [kY] at this; omega
 rcases h.2 with ⟨hv, h0⟩ | ⟨g, cap, cur, hv, h1, h2, h3, h4, h5, h6⟩
 . simp only [Value.slice.injEq] at hv
   obtain ⟨rfl, _, rfl⟩ := hv; subst h0; obtain rfl : l = [] := List.eq_nil_of_length_eq_zero hl; refine (Tryz.slices_Sort_string_none _ _ _).mono ?_; rintro e w' ⟨rfl, rfl⟩; exact ⟨rfl, by simpa [fB] using h, rfl, rfl, rfl, Nat.le_refl _, fun _ _ _ => rfl⟩
 . simp only [Value.slice.injEq] at hv
   obtain ⟨rfl, _, rfl⟩ := hv; have hsz : n <= cur.size := by omega
   have hH : Holds encStr w g 0 (l.map bl).toArray := by
    intro j hj; have hj' : j < l.length := by simpa using hj
    have hx : l[j]? = some l[j] := List.getElem?_eq_getElem hj'; refine ⟨?_, by simp [World.frozen?, h2]⟩; have h7 : (strs l)[j]? = some (.string l[j]) := Dk l j _ hx; rw [<- h6, List.getElem?_take, if_pos (by omega)] at h7; have e : encStr ((l.map bl).toArray[j]!) = .string l[j] := by
     show Value.string (ub _) = _; simp [hj', jV]
    rw [e]; simp [World.cell?, h2]
    simpa using h7
   have hc := Tryz.slices_Sort_string g 0 c (l.map bl) w hH (Array.getElem?_eq_some_iff.1 h2).1 (by rw [List.length_map]; omega); rw [List.length_map, hl] at hc; refine hc.mono ?_; rintro e w' ⟨rfl, k, os, rfl⟩; have hlt := (Array.getElem?_eq_some_iff.1 h2).1; have hms : ((l.map bl).mergeSort fun x y => decide (x <= y)).toArray.size = n := by simp [hl]
   refine ⟨rfl, ⟨by rw [kY, CF, hl]; omega, .inr ⟨g, c, putCells encStr 0 ((l.map bl).mergeSort fun x y => decide (x <= y)).toArray cur, rfl, h1, ?_, h3, h4, by simp [putCells]; omega, ?_⟩⟩, rfl, rfl, rfl, by simp, fun b hb hr => ?_⟩
   . simp only [grow, putRow, mapBlock, Sort.ahead]
     rw [Array.getElem?_append_left (by simpa using hlt), Array.getElem?_modify, if_pos rfl, h2]; rfl
   . rw [Nat.mul_one, zi 0 n _ cur hms rfl hsz]
     simp [strs, fB, ub, Function.comp_def]
   . simp only [grow, putRow, mapBlock, Sort.ahead]
     rw [Array.getElem?_append_left (by simpa using hb), Array.getElem?_modify, if_neg (fun e => hr (by rw [e]; rfl))]
end
section
open Go.RowKit Go.Shelf
attribute [local go_sem] Oper.semAt_some
theorem eH (s : ByteArray) : s.size = s.data.toList.length := (Array.length_toList).symm
theorem oD (s : ByteArray) (k : Nat) (h : k < s.size) : s.data.toList[k]? = some s[k] := by
 rw [List.getElem?_eq_getElem (by rw [<- eH]; exact h)]; rfl
theorem kE (s : ByteArray) (k i : Nat) : (s.extract k i).data.toList = (s.data.toList.drop k).take (i - k) := by
 simp [ByteArray.data_extract]
def aV : List UInt8 -> List (List UInt8)
 | [] => [[]]
 | c :: r => if c = 47 then [] :: aV r else match aV r with
   | [] => [[c]]
   | h :: t => (c :: h) :: t
theorem zI (seg : List UInt8) (h : ∀ c ∈ seg, c ≠ 47) : aV seg = [seg] := by
 induction seg with
 | nil => rfl
 | cons c r ih =>
   unfold aV; rw [if_neg (h c (by simp)), ih (fun d hd => h d (by simp [hd]))]
theorem AJ (seg r : List UInt8) (h : ∀ c ∈ seg, c ≠ 47) : aV (seg ++ 47 :: r) = seg :: aV r := by
 induction seg with
 | nil => rw [List.nil_append, aV, if_pos rfl]
 | cons c t ih =>
   rw [List.cons_append, aV, if_neg (h c (by simp)), ih (fun d hd => h d (by simp [hd]))]
theorem kI : ∀ (l p : List UInt8), p ∈ aV l -> p.length <= l.length
 | [], p, h => by simp [aV] at h; simp [h]
 | c :: r, p, h => by
   unfold aV at h; split at h
   . rcases List.mem_cons.1 h with e | h
     . simp [e]
     . have := kI r p h; simp; omega
   . split at h
     . simp at h; simp [h]
     . rename_i h2 t e
       rcases List.mem_cons.1 h with e2 | h3
       . have := kI r h2 (by rw [e]; simp)
         rw [e2]; simp; omega
       . have := kI r p (by rw [e]; simp [h3])
         simp; omega
def jX (lo : Nat) (A B : World) : Prop := ∀ k, lo <= k -> k < lo + 3 -> B.heap[k]? = A.heap[k]?
theorem DJ {lo : Nat} {A B C : World} (h : jX lo A B) (k : jX lo B C) : jX lo A C := fun i h1 h2 => (k i h1 h2).trans (h i h1 h2)
theorem BO {lo m : Nat} (h : lo + 3 <= m) (W : World) (l : Nat) (o : Obj) (hl : m <= l) : jX lo W (W.putObj l o) := fun k _ h2 => World.putObj_heap_other (by omega)
def StS (lo : Nat) (A B : World) : Prop := ∃ v, B = A.setCell ⟨lo, 0, none⟩ (.string v)
theorem Au {lo : Nat} (A B : World) (h : StS lo A B) : KeepsOthers A B := by
 obtain ⟨v, rfl⟩ := h; exact KeepsOthers.setCell _ _ _
def qI (lo : Nat) (w : World) : Nat := match w.cell? ⟨lo, 0, none⟩ with
 | some (.string s) => s.size
 | _ => 0
theorem vF {lo : Nat} {w : World} {s : ByteArray} (h : w.heap[lo]? = some (.cells #[.string s] 9 (0, 0))) : qI lo w = s.size := by
 have := cell_of_one h; simp [qI, this]
theorem Cv {l : List UInt8} {i : Nat} (h : Lib.indexByte l 47 = i) : aV l = l.take i :: aV (l.drop (i + 1)) := by
 obtain ⟨h1, h2⟩ := Lib.indexByte_some h; have hi := (List.getElem?_eq_some_iff.1 h1).1; have e : l = l.take i ++ 47 :: l.drop (i + 1) := by
  conv => lhs; rw [<- List.take_append_drop i l]
  congr 1
  rw [List.drop_eq_getElem_cons hi]
  congr 1
  exact (List.getElem?_eq_some_iff.1 h1).2
 conv => lhs; rw [e]
 refine AJ _ _ fun c hc e => ?_; subst e; obtain ⟨j, hj, hv⟩ := List.getElem_of_mem hc; have hj' : j < i := by simp at hj; omega
 apply h2 j hj'
 rw [<- hv, List.getElem_take]; exact List.getElem?_eq_getElem _
theorem AA {l : List UInt8} (h : Lib.indexByte l 47 = -1) : aV l = [l] := by
 refine zI _ fun c hc e => ?_; subst e; obtain ⟨j, hj, hv⟩ := List.getElem_of_mem hc; exact Lib.indexByte_none h j (by rw [<- hv]; exact List.getElem?_eq_getElem _)
theorem Bz (n lo : Nat) (hn : 1 <= n) (s : ByteArray) (w : World) (hs : s.size <= 9223372036854775807) (hlo : lo + 3 <= w.heap.size)
  (h0 : w.heap[lo]? = some (.cells #[.string s] 9 (0, 0))) (h1 : w.heap[lo + 1]? = some (.cells #[.string ⟨#[47]⟩] 9 (0, 0))) (h2 : w.heap[lo + 2]? = some (.cells #[.int .i64 0] 3 (0, 0))) :
  qW Fence.wide n Tryz.prog 169 #[.pointer (some ⟨lo + 1, 0, none⟩), .pointer (some ⟨lo, 0, none⟩), .pointer (some ⟨lo + 2, 0, none⟩)] (fun x : ByteArray => #[.string x]) (jX lo) (StS lo)
   (fun pre => ∃ r, pre.map bl ++ r = aV (bl s)) (fun xs => xs.map bl = aV (bl s)) (fun pre => ∃ r, pre.map bl ++ r = aV (bl s)) w := fun l J Jx W hW hJ hY hJ0 => by
 have g0 : W.heap[lo]? = some (.cells #[.string s] 9 (0, 0)) := (hW.block lo (by omega)).trans h0; have g1 : W.heap[lo + 1]? = some (.cells #[.string ⟨#[47]⟩] 9 (0, 0)) := (hW.block (lo + 1) (by omega)).trans h1; have g2 : W.heap[lo + 2]? = some (.cells #[.int .i64 0] 3 (0, 0)) := (hW.block (lo + 2) (by omega)).trans h2; clear hW h0 h1 h2; have c1 := cell_of_one g1; have G0 := ah g0; have G1 := ah g1; have G2 := ah g2; have HJ := ah hJ; have HY := ah hY; have HJ0 := ah hJ0; clear g0 g1 g2 hJ hY hJ0; refine callsIn_of_wp Tryz.func169 rfl trivial ?_ rfl; simp only [Tryz.ntmps169, List.size_toArray, List.length_cons, List.length_nil, Nat.reduceAdd, Nat.reduceSub, Array.replicate_succ, Array.replicate_zero, List.push_toArray, List.append_toArray, List.nil_append, List.cons_append]
 gi_wp2_with fail
 gi_loopw [7, 8] (fun _ _ wr => ∃ (pre : List ByteArray) (cur : ByteArray), cur.size <= 9223372036854775807 /\ Hid (wr.heap[lo]? = some (.cells #[.string cur] 9 (0, 0))) /\ Hid (wr.heap[lo + 1]? = some (.cells #[.string ⟨#[47]⟩] 9 (0, 0))) /\ Hid (wr.heap[lo + 2]? = some (.cells #[.int .i64 0] 3 (0, 0))) /\ Hid (pre.map bl ++ aV (bl cur) = aV (bl s)) /\ J pre wr)
  (fun _ _ wr => qI lo wr)
 case atStart => exact ⟨[], s, hs, G0, G1, G2, rfl, HJ0.out⟩
 case round =>
  obtain ⟨pre, cur, hcs, k0, k1, k2, hsp, hj⟩ := hrel; have d0 := cell_of_one k0.out; have d1 := cell_of_one k1.out; have d2 := cell_of_one k2.out; have f0 := free_of_one k0.out; have HJR := ah hj; clear hj; have hf86 : Fence.wide.fn 171 := trivial; by_cases hi : Lib.indexByte cur.data.toList 47 = -1
  . have HI := ah hi
    have HE := ah (AA hi); clear hi; obtain ⟨fn, tmps, assign, body, hy, hR⟩ := HY.out pre cur wr ⟨[], by rw [List.map_append, <- hsp.out, List.append_nil]; show _ = _ ++ aV cur.data.toList; rw [HE.out]; rfl⟩ HJR.out; have HR := ah hR; clear hR
    gi_wp2_with (gi_at_call 171; refine (callsIn_wide.2 (Tryz.strings_Index_one _ _ _)).mono ?_; rintro e w' ⟨rfl, rfl⟩; rw [HI.out])
    refine HR.out.mono ?_; rintro e W3 (⟨rfl, hJ3, _⟩ | ⟨rfl, hJx3⟩)
    . gi_wp2
      go_end0
      exact ⟨⟨_, rfl⟩, .inl ⟨pre ++ [cur], by rw [List.map_append, <- hsp.out]; show _ = _ ++ aV cur.data.toList; rw [HE.out]; rfl, hJ3⟩⟩
    . gi_wp2
      go_end0
      exact ⟨⟨_, rfl⟩, .inr ⟨pre ++ [cur], ⟨[], by rw [List.map_append, <- hsp.out, List.append_nil]; show _ = _ ++ aV cur.data.toList; rw [HE.out]; rfl⟩, hJx3⟩⟩
  . obtain ⟨i, hi'⟩ : ∃ i : Nat, Lib.indexByte cur.data.toList 47 = i := ⟨(Lib.indexByte cur.data.toList 47).toNat, by have := Lib.indexByte_ge cur.data.toList 47; omega⟩
    have hil : i < cur.size := by
     rw [eH]; exact (List.getElem?_eq_some_iff.1 (Lib.indexByte_some hi').1).1
    have HI := ah hi'; have HE := ah (Cv hi'); clear hi hi'; obtain ⟨fn, tmps, assign, body, hy, hR⟩ := HY.out pre (cur.extract 0 i) wr ⟨aV (cur.data.toList.drop (i + 1)), by
      rw [List.map_append, <- hsp.out, List.append_assoc]; show _ = _ ++ aV cur.data.toList; rw [HE.out]; simp [bl]⟩ HJR.out
    have HR := ah hR; clear hR
    gi_wp2_with (gi_at_call 171; refine (callsIn_wide.2 (Tryz.strings_Index_one _ _ _)).mono ?_; rintro e w' ⟨rfl, rfl⟩; rw [HI.out])
    refine HR.out.mono ?_; rintro e W3 (⟨rfl, hJ3, hK3⟩ | ⟨rfl, hJx3⟩)
    . have m0 := (hK3 lo (by omega) (by omega)).trans k0.out
      have m1 := (hK3 (lo + 1) (by omega) (by omega)).trans k1.out; have m2 := (hK3 (lo + 2) (by omega) (by omega)).trans k2.out; have e0 := cell_of_one m0; have e1 := cell_of_one m1; have q0 := free_of_one m0; have M0 := ah m0; have M1 := ah m1; have M2 := ah m2; have HJ3 := ah hJ3; clear m0 m1 m2 hJ3 hK3 d0 d1 d2 f0
      gi_wp2
      go_roundw
      case rel =>
       refine ⟨pre ++ [cur.extract 0 i], cur.extract (i + 1) cur.size, by rw [ByteArray.size_extract]; omega, one_setCell M0.out, (Below.heap_setCell _ _ _ _ (by simp)).trans M1.out, (Below.heap_setCell _ _ _ _ (by simp)).trans M2.out, ?_, HJ.out _ _ _ HJ3.out ⟨_, rfl⟩⟩; show _ = _; rw [<- hsp.out, List.map_append, List.append_assoc]; show _ = _ ++ aV cur.data.toList; rw [HE.out]; have e2 : bl (cur.extract (i + 1) cur.size) = cur.data.toList.drop (i + 1) := by
        unfold bl; rw [kE, List.take_of_length_le (by rw [List.length_drop, <- eH]; omega)]
       rw [e2]; simp [bl]
      case measure =>
       rw [vF (one_setCell M0.out), vF k0.out, ByteArray.size_extract]; omega
    . gi_wp2
      refine bodyPost_ret (results_none rfl _ _ _) rfl ?_; exact ⟨⟨_, rfl⟩, .inr ⟨pre ++ [cur.extract 0 i], ⟨aV (cur.data.toList.drop (i + 1)), by
       rw [List.map_append, <- hsp.out, List.append_assoc]; show _ = _ ++ aV cur.data.toList; rw [HE.out]; simp [bl]⟩, hJx3⟩⟩
theorem zB (s : ByteArray) (w : World) :
  Calls Tryz.prog 132 #[.string s, .string ⟨#[47]⟩] w fun e w' => e = .returned (.func (.func 169) #[] #[.pointer (some ⟨w.heap.size + 1, 0, none⟩), .pointer (some ⟨w.heap.size, 0, none⟩), .pointer (some ⟨w.heap.size + 2, 0, none⟩)]) ∧
   w' = ((w.alloc (.cells #[.string s] 9)).alloc (.cells #[.string ⟨#[47]⟩] 9)).alloc (.cells #[.int .i64 0] 3) := by
 go_enter Tryz.func132, Tryz.ntmps132
 go_wp2
 go_ret
 exact ⟨rfl, rfl⟩
end
section
open Go.RowKit Go.Shelf
attribute [local go_sem] Oper.semAt_some
theorem sW {w w' : World} {b : Nat} {v : Value} {t : TypeId} {row : Option Nat} (h : w.heap[b]? = some (.cells #[v] t (0, 0))) (hg : w.grownBy w' row) (hr : some b ≠ row) : w'.heap[b]? = some (.cells #[v] t (0, 0)) :=
 (hg.block b (Array.getElem?_eq_some_iff.1 h).1 hr).trans h
end
section
open Go.RowKit Go.Shelf
def dH (l : List ByteArray) (x : ByteArray) : Bool := l.any (fun y => decide (y = x))
theorem jE (l : List ByteArray) (x : ByteArray) : dH l x = true ↔ x ∈ l := by simp [dH, List.any_eq_true]
theorem dx (a b : ByteArray) : (a.toList == b.toList) = decide (a = b) := by
 by_cases e : a = b
 . subst e; simp
 . rw [decide_eq_false e, beq_eq_false_iff_ne]
   intro h; rw [ByteArray.toList_eq, ByteArray.toList_eq] at h; exact e (iM h)
theorem pK (s : ByteArray) (l : List UInt8) : (s.toList == l) = decide (s = ⟨l.toArray⟩) := by
 rw [<- dx]
 congr 1
 rw [ByteArray.toList_eq]
end
abbrev Fl := ByteArray × ByteArray
def flC (f : Fl) : List Value := [.string f.1, .string f.2]
theorem pO (f : Fl) : (flC f).length = 2 := rfl
theorem aM {B : Nat} {w w' : World} (h : Below B w w') : ∀ q, Below B w (w'.drewN q)
 | 0 => h
 | q + 1 => (aM h q).drew
theorem Sl.fl {w : World} {B n k : Nat} {A : OA} {fs : List Fl} (h : Sl w B 2 A n (flat flC fs)) (hk : k < n) :
  ∃ b off f, A = some ⟨b, off, none⟩ /\ b < B /\ fs[k]? = some f /\ w.cell? ⟨b, off + k * 2, none⟩ = some (.string f.1) /\ w.cell? ⟨b, off + k * 2 + 1, none⟩ = some (.string f.2) := by
 obtain ⟨b, off, x, e, hb, hx, hc⟩ := h.at_ pO (by omega) hk; exact ⟨b, off, x, e, hb, hx, hc 0 _ rfl, hc 1 _ rfl⟩
section
open Go.ChangeShapes Go.WideShapes Go.ChangeAt Go.RowKit Go.Joins Go.Deep
theorem vN : Tryz.prog.cellsOf 9 = 1 := by kernel_rfl
theorem vZ {α : Type} {p : Nat -> α -> Prop} : ∀ (n : Nat), (∀ i, i < n -> ∃ x, p i x) -> ∃ xs : List α, xs.length = n /\ ∀ i x, xs[i]? = some x -> p i x
 | 0, _ => ⟨[], rfl, fun i x h => by simp at h⟩
 | n + 1, h => by
   obtain ⟨xs, hl, hp⟩ := vZ n (fun i hi => h i (by omega)); obtain ⟨y, hy⟩ := h n (by omega); refine ⟨xs ++ [y], by simp [hl], fun i x hx => ?_⟩; rcases Nat.lt_or_ge i xs.length with hi | hi
   . rw [List.getElem?_append_left hi] at hx; exact hp i x hx
   . rw [List.getElem?_append_right hi] at hx
     have : i - xs.length = 0 := by
      rcases Nat.eq_zero_or_pos (i - xs.length) with h0 | h0
      . exact h0
      . rw [List.getElem?_eq_none (by simp; omega)] at hx; cases hx
     rw [this] at hx; simp at hx; subst hx; have : i = n := by omega
     rw [this]; exact hy
theorem kg {α : Type} {l : List α} (h : l.length = 2) : ∃ a b, l = [a, b] := by
 match l, h with
 | [a, b], _ => exact ⟨a, b, rfl⟩
theorem GH {α : Type} {l : List α} (h : l.length = 3) : ∃ a b c, l = [a, b, c] := by
 match l, h with
 | [a, b, c], _ => exact ⟨a, b, c, rfl⟩
section
variable {H : Type} {enc : TypeId × Value -> H} {P : Program} {w : World} {base : Nat} {spare : Nat -> Bool} {held : Bool} {fuel : Nat} {cs : List Value} {x : DataW H × List MemPlace}
theorem vw {α : Type} {t e : TypeId} {s : Nat} {encA : α -> List Value} {Q : α -> Prop} (ht : P.underlying t = some (.slice e)) (hC : P.cellsOf e = s) (h0 : 0 < s) (hl : ∀ a, (encA a).length = s)
  (hel : ∀ (fuel : Nat) (cs : List Value) (x : DataW H × List MemPlace), DataW.trod enc P w base spare held fuel e cs = some x -> ∃ a, cs = encA a /\ Q a)
  (h : DataW.trod enc P w base spare held fuel t cs = some x) : ∃ A n c xs, cs = [.slice A n c] /\ Sl w w.heap.size s A n (flat encA xs) /\ n <= c /\ c <= maxLen /\ ∀ a ∈ xs, Q a := by
 rcases open_slice ht h with ⟨rfl, _⟩ | ⟨a, len, cap, m, n, D, Pl, rfl, _, hlc, hcm, hm, _, hi⟩
 . exact ⟨none, 0, 0, [], rfl, Sl.nil _ _ _ _, Nat.le_refl _, Nat.zero_le _, fun a ha => by cases ha⟩
 . have hlm : len <= m := by rw [hm]; split <;> omega
   obtain ⟨xs, hxl, hxs⟩ := vZ (p := fun i (y : α) => w.cells? base (a.add (i * s)) s = some (encA y) /\ Q y) len (fun i hi' => by
    obtain ⟨cs', hc, ht'⟩ := hi i (by omega); obtain ⟨y, rfl, hq⟩ := hel _ _ _ ht'; rw [hC] at hc; exact ⟨y, hc, hq⟩)
   refine ⟨some a, len, cap, xs, rfl, ⟨by rw [gq hl, hxl], fun hn => ?_⟩, hlc, hcm, fun y hy => ?_⟩
   . have hcell : ∀ (k j : Nat) (y : α), xs[k]? = some y -> j < s -> w.cell? ((a.add (k * s)).add j) = (encA y)[j]? := fun k j y hy hj => (World.cells?_some (hxs k y hy).1).2.2 j hj
     have hx0 : xs[0]? = some (xs[0]'(by omega)) := List.getElem?_eq_getElem (by omega); have hsome : ∃ v, w.cell? a = some v := by
      have := hcell 0 0 _ hx0 h0; have hg : (encA (xs[0]'(by omega)))[0]? = some ((encA (xs[0]'(by omega)))[0]'(by rw [hl]; exact h0)) := List.getElem?_eq_getElem (by rw [hl]; exact h0); rw [hg] at this; simp [Addr.add] at this; exact ⟨_, this⟩
     obtain ⟨v, hv⟩ := hsome; have hsp := World.cell?_spot hv; obtain ⟨b, off, sp⟩ := a; simp only at hsp; subst hsp; refine ⟨b, off, rfl, ?_, fun j u hu => ?_⟩
     . unfold World.cell? at hv
       simp only at hv; rcases Nat.lt_or_ge b w.heap.size with hb | hb
       . exact hb
       . rw [Array.getElem?_eq_none hb] at hv; cases hv
     . have hj : j < xs.length * s := by
         have := (List.getElem?_eq_some_iff.1 hu).1
         rwa [gq hl] at this
       have hk : j / s < xs.length := Nat.div_lt_of_lt_mul (by rwa [Nat.mul_comm] at hj); have hr : j % s < s := Nat.mod_lt _ h0; have hy : xs[j / s]? = some (xs[j / s]'hk) := List.getElem?_eq_getElem hk; have e : j / s * s + j % s = j := by rw [Nat.mul_comm]; exact Nat.div_add_mod j s
       have h1 := ow hl xs (j / s) (j % s) _ hy hr; rw [e, hu] at h1; have h2 := hcell (j / s) (j % s) _ hy hr; rw [<- h1, Go.Deep.add_add, e] at h2; rw [<- h2]
       congr 1
       unfold Addr.add; split
       . rename_i hz; subst hz; rfl
       . rfl
   . obtain ⟨i, hi', rfl⟩ := List.getElem_of_mem hy
     exact (hxs i _ (List.getElem?_eq_getElem hi')).2
end
section
variable {H : Type} {enc : TypeId × Value -> H} {W : World} {base : Nat} {v : Value} {d : DataW H} {p : List MemPlace} {r : Reach} {b0 : Nat} {sp : Nat -> Bool} {held : Bool}
end
end
section
open Go.ChangeShapes Go.WideShapes Go.ChangeAt Go.RowKit Go.Joins Go.Deep
theorem own : ownKnob Tryz.prog.godebug = none := by kernel_rfl
theorem laidOut : laidOutB Tryz.prog = true := by kernel_rfl
section
variable {H : Type} {enc : TypeId × Value -> H} {W : World} {v : Value} {d : DataW H} {p : List MemPlace} {sp : Nat -> Bool}
theorem keep {W' : World} {t : TypeId} (hr : Tryz.prog.readableRec t = true) (hrow : t < Tryz.prog.types.size) (h : DataW.Trod enc Tryz.prog W 0 (fun _ => true) true t v d p) (hb : Below W.heap.size W W') (hlt : ∀ x ∈ p, x.block < W.heap.size) (hsp : ∀ x ∈ p, sp x.block = true) :
  DataW.Trod enc Tryz.prog W' 0 sp true t v d p :=
 WideElems.Trod_stays laidOut hr hrow h (fun x hx => hb.same (hlt x hx)) hsp
end
theorem post_below {H : Type} {enc : TypeId × Value -> H} {P : Program} {f : Func} {s : ChangeSpec} {apart fresh handsOn again : Bool} {W W' : World} {args : Array Value} {v : Value} {ds gs : List (DataW H)} {before pa pv : List MemPlace}
  (hW : DataW.Whole enc P f.params.toList s.vars apart W args.toList ds gs before)
  (hres : ∀ (b : Nat) (sp : Nat -> Bool) (hd : Bool), DataW.TrodAll enc P W' b sp hd f.resultTypes.toList (v.resultList f.resultTypes.size) (s.fn H (ds ++ gs)).results [])
  (hargs : ∀ sp : Nat -> Bool, (∀ p ∈ before, sp p.block = true) -> DataW.TrodAll enc P W' 0 sp true f.params.toList args.toList (s.fn H (ds ++ gs)).args pa)
  (hvars : ∀ sp : Nat -> Bool, (∀ p ∈ before, sp p.block = true) -> DataW.TrodVars enc P W' sp s.vars (s.fn H (ds ++ gs)).vars pv)
  (hps : before = pa ++ pv) (hb : Below W.heap.size W W')
  (hok : ∀ (j : Nat) (t : TypeId) (r : Value), f.resultTypes[j]? = some t -> (v.resultList f.resultTypes.size)[j]? = some r -> Value.okWide P W' .any 0 t r) :
  s.post enc P f apart fresh handsOn again W args v W' := by
 have hlt : ∀ p ∈ before, p.block < W.heap.size := fun p hp => hW.lt p hp; have hold : ∀ p ∈ before, (fun b => decide (b < W.heap.size)) p.block = true := fun p hp => by simpa using hlt p hp
 refine ⟨ds, gs, before, [], pa, pv, hW, hres _ _ _, hargs _ hold, hvars _ hold, World.keptBut_mono (fun p hp => ⟨hp, ?_⟩) (hb.frame (· ∈ before)), fun _ => ?_⟩
 . rw [hps, List.mem_append] at hp
   exact Or.inr hp
 . obtain ⟨_, _, _, _, _, hz, hn⟩ := hW
   refine ⟨hok, _, _, ([] ++ pa) ++ pv, ⟨[] ++ pa, pv, trodAll_append (hargs _ (fun _ _ => rfl)) (hres _ _ _), hvars _ (fun _ _ => rfl), rfl, ?_, ?_⟩, ?_⟩
   . intro b off hp
     have hin : MemPlace.cell b off ∈ before := by rw [hps]; simpa using hp
     rw [hb.frozen (hlt _ hin)]; exact hz b off hin
   . intro ha
     have := hn ha; rw [hps] at this
     simpa using this
   . intro p hp _
     rw [hps]
     simpa using hp
noncomputable def laidWorld (os : Os) : World :=
 let w0 := World.holding Tryz.prog os ⟨#[], #[], []⟩
 let put (h : Array Obj) (g : Nat) (cs : Array Value) : Array Obj := h.modify g fun
  | .cells _ t frozen => .cells cs t frozen
  | o => o
 let h1 := put w0.heap 1 (Go.Pinned.utf8FirstZ.map fun (z : Nat) => Value.int .u8 (z : Int)).toArray
 let h2 := put h1 2 (([128, 191, 160, 191, 128, 159, 144, 191, 128, 143].map fun (z : Int) => Value.int .u8 z) ++ List.replicate 22 (Value.int .u8 0)).toArray
 { w0 with heap := h2 }
theorem laid_met (os : Os) (args : Array Value) : laidMet Tryz.prog [("unicode/utf8.acceptRanges", Rows.laid_unicode_utf8_acceptRanges), ("unicode/utf8.first", Rows.laid_unicode_utf8_first)] ((laidWorld os).forCall (fun _ _ => 0) ⟨#[], args, []⟩).memory :=
 (LaidIn.of_run (l := [("unicode/utf8.acceptRanges", Rows.laid_unicode_utf8_acceptRanges), ("unicode/utf8.first", Rows.laid_unicode_utf8_first)]) [2, 1] 8 (by kernel_rfl) (by kernel_rfl) (by kernel_rfl) (by kernel_rfl)).met
end
abbrev Dig := Int × Int
abbrev Bytes := List UInt8
def ofL (l : Bytes) : ByteArray := ⟨l.toArray⟩
def toL (s : ByteArray) : Bytes := s.data.toList
theorem eD (l : Bytes) : toL (ofL l) = l := rfl
theorem fu (s : ByteArray) : ofL (toL s) = s := by cases s; simp [ofL, toL]
theorem bu (s : ByteArray) : s.size = (toL s).length := by cases s; rfl
theorem bN (l : Bytes) : (ofL l).size = l.length := rfl
/-! ### numbers -/
def aj (n : Nat) : Bytes := if n < 128 then [UInt8.ofNat n] else UInt8.ofNat (n % 128 + 128) :: aj (n / 128)
 termination_by n
 decreasing_by omega
theorem bM {n : Nat} (h : n < 128) : aj n = [UInt8.ofNat n] := by rw [aj, if_pos h]
theorem iO {n : Nat} (h : ¬ n < 128) : aj n = UInt8.ofNat (n % 128 + 128) :: aj (n / 128) := by rw [aj, if_neg h]
theorem CY (n : Nat) : 0 < (aj n).length := by
 by_cases h : n < 128
 . rw [bM h]; simp
 . rw [iO h]; simp
theorem bO : ∀ (k n : Nat), n < 128 ^ (k + 1) -> (aj n).length <= k + 1
 | 0, n, h => by rw [bM (by simpa using h)]; simp
 | k + 1, n, h => by
   by_cases hs : n < 128
   . rw [bM hs]; simp
   . rw [iO hs, List.length_cons]
     have := bO k (n / 128) (by rw [Nat.div_lt_iff_lt_mul (by omega)]; rw [Nat.pow_succ] at h; omega); omega
theorem eZ {n : Nat} (h : n < 256) : (UInt8.ofNat n).toNat = n := by simp [UInt8.toNat_ofNat']; omega
def gi : Nat -> Nat -> Nat -> Nat -> Bytes -> Nat × Nat × Int
 | 0, _, _, _, _ => (0, 0, 13)
 | _ + 1, _, _, _, [] => (0, 0, 12)
 | f + 1, i, n, u, d :: r =>
   if d.toNat < 128 then (if (d.toNat = 0 /\ 0 < i) ∨ 1099511627776 < n + d.toNat * u then (0, 0, 13) else (n + d.toNat * u, i + 1, 0))
   else gi f (i + 1) (n + (d.toNat - 128) * u) (u * 128) r
def aJ (l : Bytes) : Nat × Nat × Int := gi 6 0 0 1 l
theorem wV : ∀ (f i n u m : Nat) (r : Bytes), (aj m).length <= f -> n + m * u <= 1099511627776 -> (i = 0 ∨ 0 < m) -> gi f i n u (aj m ++ r) = (n + m * u, i + (aj m).length, 0)
 | 0, i, n, u, m, r, h, _, _ => by have := CY m; omega
 | f + 1, i, n, u, m, r, h, hm, hi => by
   by_cases hs : m < 128
   . have e := eZ (n := m) (by omega)
     rw [bM hs, List.cons_append, gi, e, if_pos hs, if_neg (by omega)]; rfl
   . have e := eZ (n := m % 128 + 128) (by omega)
     rw [iO hs] at h ⊢; have e1 : n + (m % 128 + 128 - 128) * u + m / 128 * (u * 128) = n + m * u := by
      have : m * u = (128 * (m / 128) + m % 128) * u := by rw [Nat.div_add_mod]
      rw [this, Nat.add_sub_cancel, Nat.add_mul, Nat.mul_comm u 128, <- Nat.mul_assoc, Nat.mul_comm (m / 128) 128]; omega
     rw [List.cons_append, gi, e, if_neg (by omega), wV f (i + 1) _ _ (m / 128) r (by simp at h; omega) (by omega) (.inr (by omega)), e1]; simp only [List.length_cons, Prod.mk.injEq, and_true, true_and]; omega
theorem jH {m : Nat} (h : m <= 1099511627776) (r : Bytes) : aJ (aj m ++ r) = (m, (aj m).length, 0) := by
 have hl : (aj m).length <= 6 := bO 5 m (by omega); have := wV 6 0 0 1 m r hl (by omega) (.inl rfl); unfold aJ; rw [this]; simp
theorem xQ : ∀ (f i n u : Nat) (l : Bytes), (gi f i n u l).2.1 <= i + l.length
 | 0, i, n, u, l => by simp [gi]
 | f + 1, i, n, u, [] => by simp [gi]
 | f + 1, i, n, u, d :: r => by
   rw [gi]; split
   . split <;> simp
   . have := xQ f (i + 1) (n + (d.toNat - 128) * u) (u * 128) r; simp; omega
theorem oW (l : Bytes) : (aJ l).2.1 <= l.length := by have := xQ 6 0 0 1 l; unfold aJ; omega
theorem xg : ∀ (f i n u : Nat) (l : Bytes), (gi f i n u l).1 <= 1099511627776
 | 0, i, n, u, l => by simp [gi]
 | f + 1, i, n, u, [] => by simp [gi]
 | f + 1, i, n, u, d :: r => by
   rw [gi]; split
   . split
     . simp
     . simp; omega
   . exact xg f _ _ _ r
theorem oH (l : Bytes) : (aJ l).1 <= 1099511627776 := xg 6 0 0 1 l
/-! ### texts -/
def bF (l : Bytes) : Bytes × Nat × Int :=
 if (aJ l).2.2 ≠ 0 then ([], 0, (aJ l).2.2) else if 65536 < (aJ l).1 then ([], 0, 13) else if l.length < (aJ l).2.1 + (aJ l).1 then ([], 0, 12)
 else ((l.drop (aJ l).2.1).take (aJ l).1, (aJ l).2.1 + (aJ l).1, 0)
def au (t : Bytes) : Bytes := aj t.length ++ t
theorem lK {t : Bytes} (h : t.length <= 65536) (r : Bytes) : bF (au t ++ r) = (t, (au t).length, 0) := by
 have := jH (m := t.length) (by omega) (t ++ r); unfold bF au; rw [List.append_assoc, this]; simp only [ne_eq, not_true, if_false]; rw [if_neg (by omega), if_neg (by simp)]; simp
theorem Em (l : Bytes) : (bF l).2.1 <= l.length := by
 unfold bF; split
 . simp
 . split
   . simp
   . split
     . simp
     . simp; omega
/-! ### digests -/
def be : Nat -> Nat -> Bytes
 | 0, _ => []
 | k + 1, n => UInt8.ofNat (n / 256 ^ k % 256) :: be k n
def ek (a : Nat) (l : Bytes) : Nat := l.foldl (fun a b => a * 256 + b.toNat) a
theorem dK : ∀ (k n : Nat), (be k n).length = k
 | 0, _ => rfl
 | k + 1, n => by simp [be, dK k n]
theorem pV : ∀ (k n a : Nat), ek a (be k n) = a * 256 ^ k + n % 256 ^ k
 | 0, n, a => by simp [ek, be]; omega
 | k + 1, n, a => by
   have e := eZ (n := n / 256 ^ k % 256) (by omega); show ek (a * 256 + (UInt8.ofNat (n / 256 ^ k % 256)).toNat) (be k n) = _; rw [pV k n, e, Nat.pow_succ, Nat.mod_mul, Nat.add_mul, Nat.mul_assoc, Nat.mul_comm 256 (256 ^ k), Nat.mul_comm (n / 256 ^ k % 256)]; omega
theorem jQ : ∀ (l : Bytes) (a : Nat), ek a l < (a + 1) * 256 ^ l.length
 | [], a => by simp [ek]
 | d :: l, a => by
   show ek (a * 256 + d.toNat) l < _; have h := jQ l (a * 256 + d.toNat); have hd : d.toNat < 256 := d.toNat_lt; refine Nat.lt_of_lt_of_le h ?_; rw [List.length_cons, Nat.pow_succ, Nat.mul_comm (256 ^ l.length) 256, <- Nat.mul_assoc]; exact Nat.mul_le_mul_right _ (by omega)
def WfD (d : Dig) : Prop := 0 <= d.1 /\ d.1 < 18446744073709551616 /\ 0 <= d.2 /\ d.2 < 18446744073709551616
def ak (d : Dig) : Bytes := be 8 d.1.toNat ++ be 8 d.2.toNat
def dg (l : Bytes) : Dig := ((ek 0 (l.take 8) : Int), (ek 0 ((l.drop 8).take 8) : Int))
theorem dU (d : Dig) : (ak d).length = 16 := by simp [ak, dK]
theorem lZ {d : Dig} (h : WfD d) (r : Bytes) : dg (ak d ++ r) = d := by
 have e1 : ((ak d ++ r).take 8) = be 8 d.1.toNat := by
  unfold ak; rw [List.append_assoc, List.take_left' (dK _ _)]
 have e2 : (((ak d ++ r).drop 8).take 8) = be 8 d.2.toNat := by
  unfold ak; rw [List.append_assoc, List.drop_left' (dK _ _), List.take_left' (dK _ _)]
 unfold dg; rw [e1, e2, pV, pV]; obtain ⟨a, b⟩ := d; obtain ⟨h1, h2, h3, h4⟩ := h; simp only at h1 h2 h3 h4 ⊢; refine Prod.ext ?_ ?_
 . show ((0 * 256 ^ 8 + a.toNat % 256 ^ 8 : Nat) : Int) = a
   omega
 . show ((0 * 256 ^ 8 + b.toNat % 256 ^ 8 : Nat) : Int) = b
   omega
theorem FW (l : Bytes) : WfD (dg l) := by
 have h1 := jQ (l.take 8) 0; have h2 := jQ ((l.drop 8).take 8) 0; have l1 : (l.take 8).length <= 8 := by rw [List.length_take]; omega
 have l2 : ((l.drop 8).take 8).length <= 8 := by rw [List.length_take]; omega
 have p1 : 256 ^ (l.take 8).length <= 256 ^ 8 := Nat.pow_le_pow_right (by omega) l1; have p2 : 256 ^ ((l.drop 8).take 8).length <= 256 ^ 8 := Nat.pow_le_pow_right (by omega) l2; refine ⟨?_, ?_, ?_, ?_⟩ <;> simp only [dg] <;> omega
def fC (c : Int) : Bool := ((decide (97 <= c) && decide (c <= 122)) || ((decide (65 <= c) && decide (c <= 90)) || (decide (48 <= c) && decide (c <= 57)))) || (decide (c = 46) || (decide (c = 95) || decide (c = 45)))
def gL (c : UInt8) : Bool := fC (c.toNat : Int)
def dz (l : List UInt8) : Bool := decide (1 <= l.length) && (decide (l.length <= 24) && (!(decide (l = [46])) && (!(decide (l = [46, 46])) && l.all gL)))
def aT (s : ByteArray) : Bool := dz (bl s)
theorem zT (c : Int) (w : World) : Calls Tryz.prog 150 #[.int .u8 c] w fun e w' => e = .returned (.bool (fC c)) /\ w = w' := by
 go_enter Tryz.func150, Tryz.ntmps150
 go_wp2
 all_goals (go_ret; refine ⟨aZ ?_, rfl⟩; rw [Bool.eq_iff_iff]; simp [fC]; try omega)
def AllTo (l : List UInt8) (k : Nat) : Prop := ∀ j c, j < k -> l[j]? = some c -> gL c = true
theorem AllTo.step {l : List UInt8} {k : Nat} {c : UInt8} (h : AllTo l k) (hc : l[k]? = some c) (ho : gL c = true) : AllTo l (k + 1) := fun j x hj hx => by
 by_cases e : j = k
 . subst e; rw [hc] at hx; cases hx; exact ho
 . exact h j x (by omega) hx
theorem AllTo.all {l : List UInt8} (h : AllTo l l.length) : l.all gL = true := by
 rw [List.all_eq_true]; intro c hc; obtain ⟨j, hj, e⟩ := List.getElem_of_mem hc; exact h j c hj (by rw [<- e]; exact List.getElem?_eq_getElem _)
theorem kR (s : ByteArray) (w : World) (hs : s.size <= maxLen) : Calls Tryz.prog 133 #[.string s] w fun e w' => e = .returned (.bool (aT s)) /\ w = w' := by
 unfold maxLen at hs; have HL := ah (eH s)
 go_enter Tryz.func133, Tryz.ntmps133
 have hno : ∀ b : Bool, aT s = b -> Hid (aT s = b) := fun b h => h; have hls : (bl s).length = s.size := (eH s).symm; by_cases c1 : (s.size : Int) < 1
 . have hv := hno false (by unfold aT dz; rw [decide_eq_false (by omega), Bool.false_and])
   clear hno hls; go_wp2_with fail; go_ret
   exact ⟨aZ hv.out.symm, rfl⟩
 by_cases c2 : (24 : Int) < (s.size : Int)
 . have hv := hno false (by unfold aT dz; rw [decide_eq_false (p := (bl s).length <= 24) (by omega)]; simp)
   clear hno hls; go_wp2_with fail; go_ret
   exact ⟨aZ hv.out.symm, rfl⟩
 have h3 : (s.toList == [46]) = decide (bl s = [46]) := by rw [ByteArray.toList_eq]; unfold bl; rw [Bool.eq_iff_iff]; simp
 have h4 : (s.toList == [46, 46]) = decide (bl s = [46, 46]) := by rw [ByteArray.toList_eq]; unfold bl; rw [Bool.eq_iff_iff]; simp
 by_cases c3 : bl s = [46]
 . have hv := hno false (by unfold aT dz; rw [decide_eq_true c3]; simp)
   rw [decide_eq_true c3] at h3; clear hno hls h4 c3; go_wp2_with fail; go_ret
   exact ⟨aZ hv.out.symm, rfl⟩
 rw [decide_eq_false c3] at h3; by_cases c4 : bl s = [46, 46]
 . have hv := hno false (by unfold aT dz; rw [decide_eq_true c4]; simp)
   rw [decide_eq_true c4] at h4; clear hno hls c4 c3; go_wp2_with fail; go_ret
   exact ⟨aZ hv.out.symm, rfl⟩
 rw [decide_eq_false c4] at h4; have HV : Hid (aT s = (bl s).all gL) := by
  show _ = _; unfold aT dz; rw [decide_eq_true (p := 1 <= (bl s).length) (by omega), decide_eq_true (p := (bl s).length <= 24) (by omega), decide_eq_false c3, decide_eq_false c4]; simp
 have HLS := ah hls; clear hno c3 c4 hls; go_wp2_with fail
 go_loop [22] (fun i => ∃ k : Nat, k <= s.size /\ i = .int .i64 k /\ Hid (AllTo (bl s) k)) (fun i => s.size - (intOf i).toNat)
 case atStart => exact ⟨0, Nat.zero_le _, rfl, fun j c h => absurd h (by omega)⟩
 case round =>
  obtain ⟨k, hk, rfl, hA⟩ := hrel; by_cases hlt : k < s.size
  . have hkz : (k : Int) < (s.size : Int) := by omega
    have HG := ah (oD s k hlt); have HLT := ah (zT (s[k].toNat : Int)); cases hv : fC (s[k].toNat : Int) with
    | true =>
      have HA2 : Hid (AllTo (bl s) (k + 1)) := hA.out.step HG.out hv; rw [hv] at HLT; clear hv hA
      go_wp2_with (go_at_call 150; refine (HLT.out _).mono ?_; rintro e w' ⟨rfl, rfl⟩)
      go_round
      case rel => exact ⟨k + 1, hlt, by go_num, HA2.out⟩
      case measure => simp [intOf]; omega
    | false =>
      have HF : Hid (aT s = false) := by
       show _ = _; rw [HV.out, List.all_eq_false]; exact ⟨s[k], List.mem_of_getElem? HG.out, by unfold gL; rw [hv]; simp⟩
      rw [hv] at HLT; clear hv hA
      go_wp2_with (go_at_call 150; refine (HLT.out _).mono ?_; rintro e w' ⟨rfl, rfl⟩)
      go_ret
      exact ⟨aZ HF.out.symm, rfl⟩
  . have hkz : ¬ (k : Int) < (s.size : Int) := by omega
    have HT : Hid (aT s = true) := by
     show _ = _; rw [HV.out]; refine AllTo.all ?_; have := hA.out
     rwa [show k = (bl s).length from by rw [HLS.out]; omega] at this
    clear hA; go_wp2_with fail; go_ret
    exact ⟨aZ HT.out.symm, rfl⟩
structure Ent where
 nm : ByteArray
 dir : Bool
 dg : Dig
structure Ob where
 kind : Int
 data : ByteArray
 ents : List Ent
 tree : Dig
 pars : List Dig
 auth : ByteArray
 time : Int
 msg : ByteArray
def zD : Dig := (0, 0)
theorem ja : WfD zD := ⟨by decide, by decide, by decide, by decide⟩
def aH (e : Ent) : Bytes := au (toL e.nm) ++ (aj (if e.dir = true then 1 else 0) ++ ak e.dg)
def bW (o : Ob) : Bytes :=
 if o.kind = 2 then aj o.ents.length ++ o.ents.flatMap aH
 else if o.kind = 3 then ak o.tree ++ (aj o.pars.length ++ (o.pars.flatMap ak ++ (au (toL o.auth) ++ (aj o.time.toNat ++ au (toL o.msg)))))
 else au (toL o.data)
def aB (o : Ob) : Bytes := aj o.kind.toNat ++ bW o
structure dM (e : Ent) : Prop where
 nm : aT e.nm = true
 dg : WfD e.dg
 nz : e.dg ≠ zD
structure dP (l : List Ent) : Prop where
 few : l.length <= 200
 all : ∀ e ∈ l, dM e
 asc : ∀ (j : Nat) a b, l[j]? = some a -> l[j + 1]? = some b -> less a.nm b.nm = true
structure mK (l : List Dig) : Prop where
 few : l.length <= 8
 wf : ∀ d ∈ l, WfD d
 nz : ∀ d ∈ l, d ≠ zD
 nod : l.Nodup
structure NoC (o : Ob) : Prop where
 tree : o.tree = zD
 pars : o.pars = []
 auth : o.auth = ⟨#[]⟩
 time : o.time = 0
 msg : o.msg = ⟨#[]⟩
structure OkC (o : Ob) : Prop where
 wf : WfD o.tree
 nz : o.tree ≠ zD
 pars : mK o.pars
 auth : aT o.auth = true
 t0 : 0 <= o.time
 t1 : o.time <= 1099511627776
 msg : o.msg.size <= 200
inductive OkF (o : Ob) : Prop
 | blob (k : o.kind = 1 ∨ o.kind = 4) (e : o.ents = []) (c : NoC o) (d : o.data.size <= 65536)
 | tree (k : o.kind = 2) (d : o.data = ⟨#[]⟩) (c : NoC o) (e : dP o.ents)
 | commit (k : o.kind = 3) (d : o.data = ⟨#[]⟩) (e : o.ents = []) (c : OkC o)
structure OkO (o : Ob) : Prop where
 f : OkF o
 len : (aB o).length <= 65536
theorem jG {a b : Nat} {r t : Bytes} (h : aj a ++ r = aj b ++ t) (ha : a <= 1099511627776) (hb : b <= 1099511627776) : a = b /\ r = t := by
 have h1 := jH ha r; rw [h, jH hb t] at h1; simp only [Prod.mk.injEq] at h1; obtain ⟨rfl, _, _⟩ := h1; exact ⟨rfl, List.append_cancel_left h⟩
theorem lC {a b : Bytes} {r t : Bytes} (h : au a ++ r = au b ++ t) (ha : a.length <= 65536) (hb : b.length <= 65536) : a = b /\ r = t := by
 have h1 := lK ha r; rw [h, lK hb t] at h1; simp only [Prod.mk.injEq] at h1; obtain ⟨rfl, _, _⟩ := h1; exact ⟨rfl, List.append_cancel_left h⟩
theorem oN {a b : Dig} {r t : Bytes} (h : ak a ++ r = ak b ++ t) (ha : WfD a) (hb : WfD b) : a = b /\ r = t := by
 have h1 := lZ ha r; rw [h, lZ hb t] at h1; subst h1; exact ⟨rfl, List.append_cancel_left h⟩
theorem gW {a b : ByteArray} (h : toL a = toL b) : a = b := by rw [<- fu a, <- fu b, h]
theorem dw {s : ByteArray} (h : aT s = true) : s.size <= 24 := by
 unfold aT dz at h; rw [Bool.and_eq_true, Bool.and_eq_true, decide_eq_true_eq, decide_eq_true_eq] at h; have e : (bl s).length = s.size := rfl; have := h.2.1; rw [e] at this; exact this
theorem Cq {a b : Ent} {r t : Bytes} (h : aH a ++ r = aH b ++ t) (ha : dM a) (hb : dM b) : a = b /\ r = t := by
 unfold aH at h; simp only [List.append_assoc] at h; have sa := dw ha.nm; have sb := dw hb.nm; rw [bu] at sa sb; obtain ⟨h1, h⟩ := lC h (by omega) (by omega); obtain ⟨h2, h⟩ := jG h (by split <;> omega) (by split <;> omega); obtain ⟨h3, h⟩ := oN h ha.dg hb.dg; refine ⟨?_, h⟩; obtain ⟨an, ad, ag⟩ := a; obtain ⟨bn, bd, bg⟩ := b; simp only at h1 h2 h3; have := gW h1; subst this h3; cases ad <;> cases bd <;> simp at h2 <;> rfl
theorem uH : ∀ {l m : List Ent} {r t : Bytes}, l.flatMap aH ++ r = m.flatMap aH ++ t -> l.length = m.length -> (∀ e ∈ l, dM e) -> (∀ e ∈ m, dM e) -> l = m /\ r = t
 | [], [], r, t, h, _, _, _ => ⟨rfl, by simpa using h⟩
 | [], b :: m, r, t, _, hl, _, _ => by cases hl
 | a :: l, [], r, t, _, hl, _, _ => by cases hl
 | a :: l, b :: m, r, t, h, hl, h1, h2 => by
   rw [List.flatMap_cons, List.flatMap_cons, List.append_assoc, List.append_assoc] at h; obtain ⟨rfl, h'⟩ := Cq h (h1 a (by simp)) (h2 b (by simp)); obtain ⟨rfl, h''⟩ := uH h' (by simpa using hl) (fun e he => h1 e (by simp [he])) (fun e he => h2 e (by simp [he])); exact ⟨rfl, h''⟩
theorem uo : ∀ {l m : List Dig} {r t : Bytes}, l.flatMap ak ++ r = m.flatMap ak ++ t -> l.length = m.length -> (∀ e ∈ l, WfD e) -> (∀ e ∈ m, WfD e) -> l = m /\ r = t
 | [], [], r, t, h, _, _, _ => ⟨rfl, by simpa using h⟩
 | [], b :: m, r, t, _, hl, _, _ => by cases hl
 | a :: l, [], r, t, _, hl, _, _ => by cases hl
 | a :: l, b :: m, r, t, h, hl, h1, h2 => by
   rw [List.flatMap_cons, List.flatMap_cons, List.append_assoc, List.append_assoc] at h; obtain ⟨rfl, h'⟩ := oN h (h1 a (by simp)) (h2 b (by simp)); obtain ⟨rfl, h''⟩ := uo h' (by simpa using hl) (fun e he => h1 e (by simp [he])) (fun e he => h2 e (by simp [he])); exact ⟨rfl, h''⟩
theorem OkF.kind_le {o : Ob} (h : OkF o) : 1 <= o.kind /\ o.kind <= 4 := by
 cases h with
 | blob k => omega
 | tree k => omega
 | commit k => omega
theorem NoC.eq {a b : Ob} (ha : NoC a) (hb : NoC b) (hk : a.kind = b.kind) (hd : a.data = b.data) (he : a.ents = b.ents) : a = b := by
 obtain ⟨k, d, e, t, p, u, i, m⟩ := a; obtain ⟨k', d', e', t', p', u', i', m'⟩ := b; obtain ⟨h1, h2, h3, h4, h5⟩ := ha; obtain ⟨g1, g2, g3, g4, g5⟩ := hb; simp only at *; subst hk hd he h1 h2 h3 h4 h5 g1 g2 g3 g4 g5; rfl
theorem Cj {a b : Ob} (h : aB a = aB b) (ha : OkF a) (hb : OkF b) : a = b := by
 unfold aB at h; have ka := ha.kind_le; have kb := hb.kind_le; obtain ⟨hk, h⟩ := jG h (by omega) (by omega); have hk : a.kind = b.kind := by omega
 unfold bW at h; cases ha with
 | blob k1 e1 c1 d1 =>
   cases hb with
   | blob k2 e2 c2 d2 =>
     rw [if_neg (by omega), if_neg (by omega), if_neg (by omega), if_neg (by omega)] at h; rw [<- List.append_nil (au (toL a.data)), <- List.append_nil (au (toL b.data))] at h; obtain ⟨h1, _⟩ := lC h (by rw [<- bu]; exact d1) (by rw [<- bu]; exact d2); exact c1.eq c2 hk (gW h1) (by rw [e1, e2])
   | tree k2 => omega
   | commit k2 => omega
 | tree k1 d1 c1 e1 =>
   cases hb with
   | blob k2 => omega
   | tree k2 d2 c2 e2 =>
     rw [if_pos k1, if_pos k2] at h; obtain ⟨hl, h⟩ := jG h (by have := e1.few; omega) (by have := e2.few; omega); rw [<- List.append_nil (a.ents.flatMap aH), <- List.append_nil (b.ents.flatMap aH)] at h; obtain ⟨he, _⟩ := uH h hl e1.all e2.all; exact c1.eq c2 hk (by rw [d1, d2]) he
   | commit k2 => omega
 | commit k1 d1 e1 c1 =>
   cases hb with
   | blob k2 => omega
   | tree k2 => omega
   | commit k2 d2 e2 c2 =>
     rw [if_neg (by omega), if_pos k1, if_neg (by omega), if_pos k2] at h; obtain ⟨ht, h⟩ := oN h c1.wf c2.wf; obtain ⟨hl, h⟩ := jG h (by have := c1.pars.few; omega) (by have := c2.pars.few; omega); obtain ⟨hp, h⟩ := uo h hl c1.pars.wf c2.pars.wf; have s1 := dw c1.auth; have s2 := dw c2.auth; have s3 := c1.msg; have s4 := c2.msg; rw [bu] at s1 s2 s3 s4; obtain ⟨hu, h⟩ := lC h (by omega) (by omega); obtain ⟨hi, h⟩ := jG h (by have := c1.t1; omega) (by have := c2.t1; omega); rw [<- List.append_nil (au (toL a.msg)), <- List.append_nil (au (toL b.msg))] at h; obtain ⟨hm, _⟩ := lC h (by omega) (by omega); have hu' := gW hu; have hm' := gW hm; have hi' : a.time = b.time := by have := c1.t0; have := c2.t0; omega
     obtain ⟨k, d, e, t, p, u, i, m⟩ := a; obtain ⟨k', d', e', t', p', u', i', m'⟩ := b; simp only at hk d1 d2 e1 e2 ht hp hu' hi' hm'; subst hk d1 d2 e1 e2 ht hp hu' hi' hm'; rfl
theorem Sl.on {w w' : World} {size n : Nat} {A : OA} {xs : List Value} (h : Sl w w.heap.size size A n xs) (hb : Below w.heap.size w w') : Sl w' w'.heap.size size A n xs := (h.below hb ai).more hb.size
theorem Sl.of_bk {w : World} {b size n : Nat} {t : TypeId} {cs : Array Value} (h : Bk w b t cs) (hl : cs.size = n * size) : Sl w w.heap.size size (some ⟨b, 0, none⟩) n cs.toList :=
 ⟨by simpa using hl, fun _ => ⟨b, 0, rfl, h.lt, fun j u hu => by rw [Nat.zero_add, h.cell]; simpa using hu⟩⟩
@[go_sem] theorem GN : Tryz.prog.eqGuardType Tryz.prog.depth 94 = false := by kernel_rfl
theorem ER : Tryz.prog.stoodInHeld 94 = false := by kernel_rfl
@[go_sem high] theorem GU (s t s' t' : ByteArray) (w : World) : (Op.equalIn 10000 94 (.agg #[.string s, .string t]) (.agg #[.string s', .string t'])).run Tryz.prog w = .ok (s.toList == s'.toList && t.toList == t'.toList) w := by
 have hS : Tryz.prog.underlying 94 = some (.struct (Tryz.prog.fieldsOf 94)) := by kernel_rfl
 have a9 := Tryz.isAgg9; have u9 := Tryz.underlying9; rw [show (10000 : Nat) = 9999 + 1 from rfl, run_equalIn_agg w 9999 94 _ _ hS ER]; simp only [Program.fieldsOf, Tryz.underlying94]
 go_simp
 by_cases h1 : s.toList = s'.toList <;> by_cases h2 : t.toList = t'.toList <;> simp [h1, h2]
@[go_sem] theorem GL : Tryz.prog.eqGuardType Tryz.prog.depth 42 = false := by kernel_rfl
theorem xK (dd : Nat) (a b c d : Int) (w : World) : (Op.equalIn (dd + 2) 42 (.agg #[.int .u64 a, .int .u64 b]) (.agg #[.int .u64 c, .int .u64 d])).run Tryz.prog w = .ok (a == c && b == d) w := by
 have u3 := Tryz.underlying40; have a3 := Tryz.isAgg40; have z3 := Tryz.sizeOf40; rw [Op.equalIn]; simp only [Sem.run_bind, run_underlying Tryz.underlying42, Result.andThen_ok]; simp only [Std.Legacy.Range.forIn_eq_forIn_range', Std.Legacy.Range.size, Nat.sub_zero, Nat.add_sub_cancel, Nat.div_one, List.range'_succ, List.range'_zero, List.forIn_cons, List.forIn_nil]
 go_simp
 by_cases h1 : a = c <;> by_cases h2 : b = d <;> simp [h1, h2]
@[go_sem high] theorem GR (a b c d : Int) (w : World) : (Op.equalIn 10000 42 (.agg #[.int .u64 a, .int .u64 b]) (.agg #[.int .u64 c, .int .u64 d])).run Tryz.prog w = .ok (a == c && b == d) w := xK 9998 a b c d w
def dg1 (h b : Int) : Int := IntKind.u64.wrap (bits .xor .u64 h b * 1099511628211)
def dg2 (h b : Int) : Int := bits .xor .u64 (IntKind.u64.wrap (h * 1099511628211)) b
def dgF (g : Int -> Int -> Int) (l : Bytes) : Int := l.foldl (fun h b => g h (IntKind.u64.wrap (b.toNat : Int))) 14695981039346656037
def ofB (l : Bytes) : Dig := if dgF dg1 l = 0 /\ dgF dg2 l = 0 then (0, 1) else (dgF dg1 l, dgF dg2 l)
theorem lI (g : Int -> Int -> Int) {l : Bytes} {k : Nat} (hk : k < l.length) : dgF g (l.take (k + 1)) = g (dgF g (l.take k)) (IntKind.u64.wrap (l[k].toNat : Int)) := by
 unfold dgF; rw [bA (List.getElem?_eq_getElem hk), List.foldl_append]; rfl
theorem EH (h b : Int) (w : World) : Calls Tryz.prog 87 #[.int .u64 h, .int .u64 b] w fun e w' => e = .returned (.int .u64 (dg1 h b)) /\ w = w' := by
 go_enter Tryz.func87, Tryz.ntmps87
 go_wp2
 go_ret
 exact ⟨rfl, rfl⟩
theorem Es (h b : Int) (w : World) : Calls Tryz.prog 88 #[.int .u64 h, .int .u64 b] w fun e w' => e = .returned (.int .u64 (dg2 h b)) /\ w = w' := by
 go_enter Tryz.func88, Tryz.ntmps88
 go_wp2
 go_ret
 exact ⟨rfl, rfl⟩
theorem BL (s : ByteArray) (w : World) (hs : s.size <= maxLen) :
  Calls Tryz.prog 86 #[.string s, .func (.func 87) #[] #[]] w fun e w' => e = .returned (.int .u64 (dgF dg1 (toL s))) /\ w = w' := by
 have hs' : s.size <= 9223372036854775807 := by unfold maxLen at hs; exact hs
 go_enter Tryz.func86, Tryz.ntmps86
 go_wp2
 go_loop [5, 9] (fun q5 q9 => ∃ k : Nat, k <= s.size /\ q9 = .int .i64 k /\ q5 = .int .u64 (dgF dg1 ((toL s).take k))) (fun _ q9 => s.size - (intOf q9).toNat)
 case atStart => exact ⟨0, Nat.zero_le _, rfl, rfl⟩
 case round =>
  obtain ⟨k, hk, rfl, rfl⟩ := hrel; by_cases hlt : k < s.size
  . have hlz : (k : Int) < (s.size : Int) := by omega
    have hkl : k < (toL s).length := by rw [<- bu]; exact hlt
    have HN : Hid (dgF dg1 ((toL s).take (k + 1)) = dg1 (dgF dg1 ((toL s).take k)) (IntKind.u64.wrap (s[k].toNat : Int))) := lI dg1 hkl; generalize dgF dg1 ((toL s).take k) = h0 at *; go_wp2_with fail; refine (EH _ _ _).mono ?_; rintro e w1 ⟨rfl, rfl⟩; go_wp2_with fail
    go_round
    case rel => exact ⟨k + 1, by omega, by go_num, by rw [HN.out]; rfl⟩
    case measure => simp [intOf]; omega
  . have hlz : ¬ (k : Int) < (s.size : Int) := by omega
    have HE : Hid ((toL s).take k = toL s) := List.take_of_length_le (by rw [<- bu]; omega); go_wp2_with fail; go_ret
    exact ⟨by rw [HE.out]; rfl, rfl⟩
theorem Bt (s : ByteArray) (w : World) (hs : s.size <= maxLen) :
  Calls Tryz.prog 86 #[.string s, .func (.func 88) #[] #[]] w fun e w' => e = .returned (.int .u64 (dgF dg2 (toL s))) /\ w = w' := by
 have hs' : s.size <= 9223372036854775807 := by unfold maxLen at hs; exact hs
 go_enter Tryz.func86, Tryz.ntmps86
 go_wp2
 go_loop [5, 9] (fun q5 q9 => ∃ k : Nat, k <= s.size /\ q9 = .int .i64 k /\ q5 = .int .u64 (dgF dg2 ((toL s).take k))) (fun _ q9 => s.size - (intOf q9).toNat)
 case atStart => exact ⟨0, Nat.zero_le _, rfl, rfl⟩
 case round =>
  obtain ⟨k, hk, rfl, rfl⟩ := hrel; by_cases hlt : k < s.size
  . have hlz : (k : Int) < (s.size : Int) := by omega
    have hkl : k < (toL s).length := by rw [<- bu]; exact hlt
    have HN : Hid (dgF dg2 ((toL s).take (k + 1)) = dg2 (dgF dg2 ((toL s).take k)) (IntKind.u64.wrap (s[k].toNat : Int))) := lI dg2 hkl; generalize dgF dg2 ((toL s).take k) = h0 at *; go_wp2_with fail; refine (Es _ _ _).mono ?_; rintro e w1 ⟨rfl, rfl⟩; go_wp2_with fail
    go_round
    case rel => exact ⟨k + 1, by omega, by go_num, by rw [HN.out]; rfl⟩
    case measure => simp [intOf]; omega
  . have hlz : ¬ (k : Int) < (s.size : Int) := by omega
    have HE : Hid ((toL s).take k = toL s) := List.take_of_length_le (by rw [<- bu]; omega); go_wp2_with fail; go_ret
    exact ⟨by rw [HE.out]; rfl, rfl⟩
theorem fH {fn : Func} {c : Tmp} (h : fn.results = #[.cell c 42]) {w : World} {a : Array Value} {b : Nat} {x y : Value} (ha : a[c]?.getD undef = .pointer (some ⟨b, 0, none⟩)) (hk : Bk w b 42 #[x, y]) :
  (results fn a).run Tryz.prog w = .ok (.agg #[x, y]) w := by
 have h0 := hk.cell 0; have h1 := hk.cell 1; simp at h0 h1; simp [results, h, ha, go_sem, h0, h1]
def az (d : Dig) : Value := .agg #[.int .u64 d.1, .int .u64 d.2]
def jc (s : ByteArray) (w : World) (e : Ending) (w' : World) : Prop := e = .returned (az (ofB (toL s))) /\ Below w.heap.size w w'
theorem Fs (s : ByteArray) (w : World) (hs : s.size <= maxLen) : Calls Tryz.prog 57 #[.string s] w (jc s w) := by
 have HE : Hid (ofB (toL s) = if dgF dg1 (toL s) = 0 /\ dgF dg2 (toL s) = 0 then (0, 1) else (dgF dg1 (toL s), dgF dg2 (toL s))) := rfl; have H1 := ah (BL s (w.alloc (.cells #[.int .u64 0, .int .u64 0] 42)) hs); have H2 := ah (Bt s (w.alloc (.cells #[.int .u64 0, .int .u64 0] 42)) hs); have HV : Hid (∀ q, ofB (toL s) = q -> ∀ e w', e = Ending.returned (az q) -> Below w.heap.size w w' -> jc s w e w') := fun q h e w' h1 h2 => by subst h; exact ⟨h1, h2⟩
 generalize dgF dg1 (toL s) = x at *; generalize dgF dg2 (toL s) = y at *
 go_enter Tryz.func57, Tryz.ntmps57
 go_wp2_with fail; refine H1.out.mono ?_; rintro e w1 ⟨rfl, rfl⟩; go_wp2_with fail; refine H2.out.mono ?_; rintro e w1 ⟨rfl, rfl⟩; obtain ⟨W, hW⟩ : ∃ W, (w.alloc (.cells #[.int .u64 0, .int .u64 0] 42)).alloc (.cells #[.int .u64 x, .int .u64 y] 42) = W := ⟨_, rfl⟩
 have K0 : Hid (Bk W w.heap.size 42 #[.int .u64 0, .int .u64 0]) := by rw [<- hW]; exact (Bk.new w _ _).alloc _
 have K1 : Hid (Bk W (w.heap.size + 1) 42 #[.int .u64 x, .int .u64 y]) := by
  rw [<- hW]; have := Bk.new (w.alloc (.cells #[.int .u64 0, .int .u64 0] 42)) 42 #[.int .u64 x, .int .u64 y]; rw [World.size_alloc] at this; exact this
 have HB : Hid (Below w.heap.size w W) := by rw [<- hW]; exact ((Below.refl _ w).alloc ai _).alloc (by simp) _
 have u0 := K0.out.cell 0; have u1 := K0.out.cell 1; have v0 := K1.out.cell 0; have v1 := K1.out.cell 1; simp at u0 u1 v0 v1; have f0 := K0.out.free 0; have f1 := K0.out.free 1; have g1 := K1.out.free 1; clear H1 H2; by_cases hz : x = 0 /\ y = 0
 . have hb : (x == 0 && y == 0) = true := by simp [hz]
   have HQ : Hid (ofB (toL s) = (x, 1)) := by show _ = _; rw [HE.out, if_pos hz, hz.1]
   clear hz; have W2 : Hid (Bk (W.setCell ⟨w.heap.size + 1, 1, none⟩ (.int .u64 1)) (w.heap.size + 1) 42 #[.int .u64 x, .int .u64 1]) := by
    have := K1.out.set 1 (.int .u64 1); show Bk _ _ _ _; simpa using this
   have KF : Hid (Bk (W.setCell ⟨w.heap.size + 1, 1, none⟩ (.int .u64 1)) w.heap.size 42 #[.int .u64 0, .int .u64 0]) := K0.out.far (by simp) _; have a0 := W2.out.cell 0; have a1 := W2.out.cell 1; have b0 := KF.out.cell 0; have b1 := KF.out.cell 1; simp at a0 a1 b0 b1; have d0 := KF.out.free 0; have d1 := KF.out.free 1; clear HE; go_wp2_with fail; refine bodyPost_ret (fH Tryz.results57 rfl (KF.out.set2 _ _)) rfl ?_; exact HV.out _ HQ.out _ _ rfl (di (HB.out.setCell (p := ⟨w.heap.size + 1, 1, none⟩) (by simp) _) ai _ _)
 . have hb : (x == 0 && y == 0) = false := by
     rw [Bool.eq_false_iff]; intro h; simp at h; exact hz h
   have HQ : Hid (ofB (toL s) = (x, y)) := by show _ = _; rw [HE.out, if_neg hz]
   clear hz HE; go_wp2_with fail; refine bodyPost_ret (fH Tryz.results57 rfl (K0.out.set2 _ _)) rfl ?_; exact HV.out _ HQ.out _ _ rfl (di HB.out ai _ _)
theorem Ee (s : ByteArray) (w : World) (hs : s.size <= maxLen) : Calls Tryz.prog 44 #[.string s] w (jc s w) := by
 have hs' : s.size <= 9223372036854775807 := by unfold maxLen at hs; exact hs
 have HE : Hid (ofB (toL s) = if dgF dg1 (toL s) = 0 /\ dgF dg2 (toL s) = 0 then (0, 1) else (dgF dg1 (toL s), dgF dg2 (toL s))) := rfl; have HV : Hid (∀ q, ofB (toL s) = q -> ∀ e w', e = Ending.returned (az q) -> Below w.heap.size w w' -> jc s w e w') := fun q h e w' h1 h2 => by subst h; exact ⟨h1, h2⟩
 obtain ⟨W, hW⟩ : ∃ W, w.alloc (.cells #[.int .u64 0, .int .u64 0] 42) = W := ⟨_, rfl⟩
 have K0 : Hid (Bk W w.heap.size 42 #[.int .u64 0, .int .u64 0]) := by rw [<- hW]; exact Bk.new w _ _
 have HB : Hid (Below w.heap.size w W) := by rw [<- hW]; exact (Below.refl _ w).alloc ai _
 have u0 := K0.out.cell 0; have u1 := K0.out.cell 1; simp at u0 u1; have f0 := K0.out.free 0; have f1 := K0.out.free 1
 go_enter Tryz.func44, Tryz.ntmps44
 go_wp2
 go_loop [3, 4, 5] (fun q3 q4 q5 => ∃ k : Nat, k <= s.size /\ q5 = .int .i64 k /\ q3 = .int .u64 (dgF dg1 ((toL s).take k)) /\ q4 = .int .u64 (dgF dg2 ((toL s).take k))) (fun _ _ q5 => s.size - (intOf q5).toNat)
 case atStart => exact ⟨0, Nat.zero_le _, rfl, rfl, rfl⟩
 case round =>
  obtain ⟨k, hk, rfl, rfl, rfl⟩ := hrel; by_cases hlt : k < s.size
  . have hlz : (k : Int) < (s.size : Int) := by omega
    have hkl : k < (toL s).length := by rw [<- bu]; exact hlt
    have HN1 : Hid (dgF dg1 ((toL s).take (k + 1)) = dg1 (dgF dg1 ((toL s).take k)) (IntKind.u64.wrap (s[k].toNat : Int))) := lI dg1 hkl; have HN2 : Hid (dgF dg2 ((toL s).take (k + 1)) = dg2 (dgF dg2 ((toL s).take k)) (IntKind.u64.wrap (s[k].toNat : Int))) := lI dg2 hkl; generalize dgF dg1 ((toL s).take k) = x at *; generalize dgF dg2 ((toL s).take k) = y at *; go_wp2_with fail
    go_round
    case rel => exact ⟨k + 1, by omega, by go_num, by rw [HN1.out]; rfl, by rw [HN2.out]; rfl⟩
    case measure => simp [intOf]; omega
  . have hlz : ¬ (k : Int) < (s.size : Int) := by omega
    have hE : (toL s).take k = toL s := List.take_of_length_le (by rw [<- bu]; omega); rw [hE]; clear hE; generalize dgF dg1 (toL s) = x at *; generalize dgF dg2 (toL s) = y at *; by_cases hz : x = 0 /\ y = 0
    . have HQ : Hid (ofB (toL s) = (0, 1)) := by show _ = _; rw [HE.out, if_pos hz]
      obtain ⟨rfl, rfl⟩ := hz; clear HE; go_wp2_with fail; refine bodyPost_ret (fH Tryz.results44 rfl (K0.out.set2 _ _)) rfl ?_; exact HV.out _ HQ.out _ _ rfl (di HB.out ai _ _)
    . have HQ : Hid (ofB (toL s) = (x, y)) := by show _ = _; rw [HE.out, if_neg hz]
      clear HE; by_cases hx : x = 0
      . have hy : (y == 0) = false := by rw [beq_eq_false_iff_ne]; exact fun h => hz ⟨hx, h⟩
        subst hx; clear hz; go_wp2_with fail; refine bodyPost_ret (fH Tryz.results44 rfl (K0.out.set2 _ _)) rfl ?_; exact HV.out _ HQ.out _ _ rfl (di HB.out ai _ _)
      . have hxb : (x == 0) = false := by rw [beq_eq_false_iff_ne]; exact hx
        clear hz hx; go_wp2_with fail; refine bodyPost_ret (fH Tryz.results44 rfl (K0.out.set2 _ _)) rfl ?_; exact HV.out _ HQ.out _ _ rfl (di HB.out ai _ _)
end Go.Proofs.YtlcecobipgmafaaGreatDoor
