/-
  Lemmas: Words for memory, over any program: a slice value that reads as a list of cells below a block; lists of elements laid out as cells; how these facts are carried from world to world. Plain lemmas, no program in sight. A block that is known whole. A family of slices of strings, each with a row of its own (the elements of maps of slices, appended to in turn). Over any program. A range over a function whose iterator keeps state of its own in cells (strings.SplitSeq): the law for the caller. The iterator's own steps between two rounds are a relation St of worlds; the caller's invariant abides them. As in Range; moreover a round knows that what has come, its own element with it, is such as the iterator hands over (Pf). append onto a row of the call's own, whatever the source; slices of slices. Over any program. The order of strings, byte by byte. Ascending lists of labels, in plain Lean. DERIVED: THE SHELF's CONTRACTS AT THIS DUMP, IN PLAIN WORDS (tools/lay-plain.mjs out of 'TryzShelf.lean', which tools/lay-shelf.mjs wrote): THE SAME DECLARATIONS UNDER THE SAME NAMES: 'import', 'namespace', 'open', 'def', 'theorem' AND NOTHING ELSE: no command of the shelf's: FOR A HAND-IN. Each laying: the table of numbers ('.._ren') and one theorem, a field a fact of the dump's own or the kernel's comparison; each contract: ONE APPLICATION. slices.Sort on a slice of strings that is the call's own. strings.SplitSeq at a slash. Labels: lexer.Word and lexer.Label. buildfile.Check on one rule with elements of Visible alone. Lists of files in memory (for seats without cordwoodref41's functions on files: there XSame has these names).
-/
import Derived.WalkKit
import Derived.WalkSpells
import Derived.WalkLawsBesides
import Derived.Lib.Hide
import Derived.Deep.AppendLies
import Derived.RangeFuncNested
import Derived.RangeFuncBound
import Derived.RangeFuncCalls
import Derived.RangeFuncLeaves
import Derived.RangeFuncFrom
import Derived.RangeFuncWrites
import Derived.Shelf.Abstract
import Derived.OwnWalkIn
import Derived.TacticsInMore
import Derived.LoopNIn
import Derived.LoopIn
import Derived.Maps.OwnSet
import Derived.Sort.KeysCollected
import Derived.Shelf.Strings.Builder1
import Derived.Shelf.Small.Bits
import Derived.Shelf.Small.Strs
import Derived.Shelf.Small.Wraps
import Derived.Shelf.Strconv.Itoa0
import Derived.Shelf.Strings.Search1
import Derived.Shelf.Strings.Search2
import Derived.Shelf.Strings.Search3
import Derived.Shelf.LaysM
import Derived.Shelf.Strings.Shaped
import Derived.Shelf.Sort.Plain
import Derived.Shelf.Strings.LastIndex
import Derived.Shelf.Strings.Prefix
import Derived.Shelf.Unicode.DecodeSlow
import Derived.Shelf.Slices.Turned
import Derived.Shelf.Slices.In.SortNone
import Derived.Test.YtddlohbhchjjhaaGreatDoorProg
import Derived.Lib.IndexLaws
import Derived.Laws.RangeAny

namespace Go.Proofs.YtddlohbhchjjhaaGreatDoor
open Go.RowKit

theorem ret_bool {a b : Bool} (h : a = b) : Ending.returned (.bool a) = .returned (.bool b) := by rw [h]
theorem ret_int {k : IntKind} {a b : Int} (h : a = b) : Ending.returned (.int k a) = .returned (.int k b) := by rw [h]

def Sl (w : World) (B size : Nat) (A : Option Addr) (n : Nat) (xs : List Value) : Prop :=
  xs.length = n * size ∧ (0 < n → ∃ b off, A = some ⟨b, off, none⟩ ∧ b < B ∧ ∀ j u, xs[j]? = some u → w.cell? ⟨b, off + j, none⟩ = some u)

section
variable {w w' : World} {B B' size n : Nat} {A : Option Addr} {xs : List Value}
theorem Sl.nil (w : World) (B size : Nat) (A : Option Addr) : Sl w B size A 0 [] := ⟨by simp, fun h => absurd h (by omega)⟩
theorem Sl.keep (h : Sl w B size A n xs) (hk : ∀ p : Addr, p.block < B → w'.cell? p = w.cell? p) : Sl w' B size A n xs :=
  ⟨h.1, fun hn => by
    obtain ⟨b, off, e, hb, hc⟩ := h.2 hn
    exact ⟨b, off, e, hb, fun j u hu => (hk ⟨b, off + j, none⟩ hb).trans (hc j u hu)⟩⟩
theorem Sl.more (h : Sl w B size A n xs) (hB : B ≤ B') : Sl w B' size A n xs :=
  ⟨h.1, fun hn => by
    obtain ⟨b, off, e, hb, hc⟩ := h.2 hn
    exact ⟨b, off, e, by omega, hc⟩⟩
theorem Sl.below (h : Sl w B size A n xs) (hb : Below B' w w') (hB : B ≤ B') : Sl w' B size A n xs := h.keep fun _ hp => hb.cell (by omega)
theorem Sl.alloc (h : Sl w B size A n xs) (hB : B ≤ w.heap.size) (o : Obj) : Sl (w.alloc o) B size A n xs :=
  h.keep fun p hp => World.cell?_of_block (w := w) (Below.heap_alloc w o p.block (by omega))
theorem Sl.drew (h : Sl w B size A n xs) : Sl w.drew B size A n xs := h
theorem Sl.drewN (h : Sl w B size A n xs) (k : Nat) : Sl (w.drewN k) B size A n xs := h
theorem Sl.grown (h : Sl w B size A n xs) {row : Option Nat} (hg : w.grownBy w' row) (hB : B ≤ w.heap.size) (hr : ∀ g, row = some g → B ≤ g) : Sl w' B size A n xs :=
  h.keep fun p hp => World.cell?_of_block (hg.block p.block (by omega) (fun e => by have := hr _ e.symm; omega))
theorem Sl.of_own {base : Nat} {e : TypeId} {c : Nat} (h : w.ownsRow base e size (.slice A n c) n xs) : Sl w w.heap.size size A n xs := by
  refine ⟨h.1, fun hn => ?_⟩
  rcases h.2 with ⟨hv, h0⟩ | ⟨g, cap, cur, hv, _, hh, _, _, _, hcur⟩
  · omega
  · injection hv with hA
    subst hA
    refine ⟨g, 0, rfl, (Array.getElem?_eq_some_iff.1 hh).1, fun j u hu => ?_⟩
    have := h.cells (g := g) rfl j u hu
    rwa [Addr.add_lit] at this
end

def flat {α : Type} (enc : α → List Value) (xs : List α) : List Value := xs.flatMap enc

section
variable {α : Type} {enc : α → List Value} {s : Nat}
theorem flat_len (hs : ∀ x, (enc x).length = s) (xs : List α) : (flat enc xs).length = xs.length * s := by
  induction xs with
  | nil => simp [flat]
  | cons x xs ih => simp only [flat, List.flatMap_cons, List.length_append, List.length_cons] at ih ⊢; rw [ih, hs, Nat.add_mul]; omega
theorem flat_append (xs ys : List α) : flat enc (xs ++ ys) = flat enc xs ++ flat enc ys := by simp [flat]
theorem flat_get (hs : ∀ x, (enc x).length = s) (xs : List α) (k j : Nat) (x : α) (h : xs[k]? = some x) (hj : j < s) : (flat enc xs)[k * s + j]? = (enc x)[j]? := by
  induction xs generalizing k with
  | nil => simp at h
  | cons v us ih =>
    cases k with
    | zero =>
      simp only [List.getElem?_cons_zero, Option.some.injEq] at h; subst h
      simp only [flat, List.flatMap_cons, Nat.zero_mul, Nat.zero_add]
      rw [List.getElem?_append_left (by rw [hs]; exact hj)]
    | succ k =>
      simp only [List.getElem?_cons_succ] at h
      rw [← ih k h]
      simp only [flat, List.flatMap_cons]
      rw [List.getElem?_append_right (by rw [hs, Nat.succ_mul]; omega), hs]
      congr 1
      rw [Nat.succ_mul]; omega
variable {w : World} {B n : Nat} {A : Option Addr} {xs : List α}
theorem Sl.len (hs : ∀ x, (enc x).length = s) (h0 : 0 < s) (h : Sl w B s A n (flat enc xs)) : xs.length = n := by
  have := h.1; rw [flat_len hs] at this; exact Nat.eq_of_mul_eq_mul_right h0 this
theorem Sl.at_ {k : Nat} (hs : ∀ x, (enc x).length = s) (h0 : 0 < s) (h : Sl w B s A n (flat enc xs)) (hk : k < n) :
    ∃ b off x, A = some ⟨b, off, none⟩ ∧ b < B ∧ xs[k]? = some x ∧ ∀ j v, (enc x)[j]? = some v → w.cell? ⟨b, off + k * s + j, none⟩ = some v := by
  obtain ⟨b, off, rfl, hb, hc⟩ := h.2 (by omega)
  have hl := h.len hs h0
  have hu : xs[k]? = some xs[k] := List.getElem?_eq_getElem (by omega)
  refine ⟨b, off, xs[k], rfl, hb, hu, fun j v hv => ?_⟩
  have hj : j < s := by
    have := (List.getElem?_eq_some_iff.1 hv).1
    rwa [hs] at this
  rw [Nat.add_assoc]
  exact hc _ v ((flat_get hs xs k j _ hu hj).trans hv)
end

theorem take_snoc {α : Type} {l : List α} {k : Nat} {x : α} (h : l[k]? = some x) : l.take (k + 1) = l.take k ++ [x] := by
  have hk := (List.getElem?_eq_some_iff.1 h).1
  rw [List.take_succ_eq_append_getElem hk]
  congr 2
  exact (List.getElem?_eq_some_iff.1 h).2

end Go.Proofs.YtddlohbhchjjhaaGreatDoor

namespace Go.Proofs.YtddlohbhchjjhaaGreatDoor
open Go.RowKit

def Bk (w : World) (b : Nat) (t : TypeId) (cs : Array Value) : Prop := w.heap[b]? = some (.cells cs t (0, 0))
section
variable {w w' : World} {b : Nat} {t : TypeId} {cs : Array Value}
theorem Bk.lt (h : Bk w b t cs) : b < w.heap.size := (Array.getElem?_eq_some_iff.1 h).1
theorem Bk.cell (h : Bk w b t cs) (i : Nat) : w.cell? ⟨b, i, none⟩ = cs[i]? := by
  unfold Bk at h; simp [World.cell?, h]
theorem Bk.free (h : Bk w b t cs) (i : Nat) : w.frozen? ⟨b, i, none⟩ = false := by
  unfold Bk at h; simp [World.frozen?, h]
theorem Bk.new (w : World) (t : TypeId) (cs : Array Value) : Bk (w.alloc (.cells cs t)) w.heap.size t cs := heap_alloc_new w _
theorem Bk.alloc (h : Bk w b t cs) (o : Obj) : Bk (w.alloc o) b t cs := (Below.heap_alloc w o b h.lt).trans h
theorem Bk.below {B : Nat} (h : Bk w b t cs) (hb : Below B w w') (hB : b < B) : Bk w' b t cs := (hb.block b hB).trans h
theorem Bk.grown {row : Option Nat} (h : Bk w b t cs) (hg : w.grownBy w' row) (hr : some b ≠ row) : Bk w' b t cs := (hg.block b h.lt hr).trans h
theorem Bk.far (h : Bk w b t cs) {p : Addr} (hp : b ≠ p.block) (u : Value) : Bk (w.setCell p u) b t cs := (Below.heap_setCell w p u b hp).trans h
theorem Bk.drew (h : Bk w b t cs) : Bk w.drew b t cs := h
theorem Bk.drewN (h : Bk w b t cs) (k : Nat) : Bk (w.drewN k) b t cs := h
theorem Bk.set (h : Bk w b t cs) (i : Nat) (u : Value) : Bk (w.setCell ⟨b, i, none⟩ u) b t (cs.setIfInBounds i u) := by
  unfold Bk at h ⊢
  simp [World.setCell, Array.getElem?_modify, h]
end
theorem Sl.setCell {w : World} {B size n : Nat} {A : Option Addr} {xs : List Value} (h : Sl w B size A n xs) {p : Addr} (hp : B ≤ p.block) (u : Value) : Sl (w.setCell p u) B size A n xs :=
  h.keep fun q hq => World.cell?_of_block (w := w) (Below.heap_setCell w p u q.block (by omega))
end Go.Proofs.YtddlohbhchjjhaaGreatDoor

namespace Go.Proofs.YtddlohbhchjjhaaGreatDoor
open Go.RowKit

def strs (l : List ByteArray) : List Value := l.map Value.string
theorem strs_len (l : List ByteArray) : (strs l).length = l.length := by simp [strs]
structure Grp {ι : Type} (w : World) (base : Nat) (e : TypeId) (f : ι → Value) (L : ι → List ByteArray) : Prop where
  own : ∀ i, w.ownsRow base e 1 (f i) (L i).length (strs (L i))
  apart : ∀ i j k, (f i).ownBlock = some k → (f j).ownBlock = some k → i = j
section
variable {ι : Type} {w w' : World} {base : Nat} {e : TypeId} {f : ι → Value} {L : ι → List ByteArray}
theorem Grp.start (w : World) (base : Nat) (e : TypeId) : Grp (ι := ι) w base e (fun _ => .slice none 0 0) (fun _ => []) :=
  ⟨fun _ => World.ownsRow_nil w base e 1, fun i j k h => by cases h⟩
theorem Grp.kept {row : Option Nat} (h : Grp w base e f L) (hg : w.grownBy w' row) (hr : ∀ i, (f i).ownBlock = none ∨ (f i).ownBlock ≠ row) : Grp w' base e f L :=
  ⟨fun i => (h.own i).kept hg (hr i), h.apart⟩
theorem Grp.below (h : Grp w base e f L) (hb : Below w.heap.size w w') : Grp w' base e f L :=
  h.kept (row := none) ⟨hb.os, hb.tape, hb.output, hb.size, fun k hk _ => hb.block k hk⟩ (fun i => by cases hv : (f i).ownBlock with | none => exact .inl rfl | some k => exact .inr (by simp))
theorem Grp.alloc (h : Grp w base e f L) (o : Obj) : Grp (w.alloc o) base e f L := h.below ((Below.refl _ w).alloc (Nat.le_refl _) o)
theorem Grp.other {b : Nat} (h : Grp w base e f L) (hg : w.grownBy w' (some b)) (hb : b < base) : Grp w' base e f L :=
  h.kept hg (fun i => by
    cases hv : (f i).ownBlock with
    | none => exact .inl rfl
    | some k => exact .inr (fun e => by have := ((h.own i).lt k hv).1; cases e; omega))
theorem Grp.form (h : Grp w base e f L) (i : ι) : ∃ A c, f i = .slice A (L i).length c ∧ (L i).length ≤ c ∧ c ≤ maxLen := by
  rcases (h.own i).2 with ⟨hv, h0⟩ | ⟨g, cap, cur, hv, _, _, h1, h2, _⟩
  · exact ⟨none, 0, by rw [hv, h0], by omega, Nat.zero_le _⟩
  · exact ⟨_, _, hv, h1, h2⟩
theorem Grp.sl (h : Grp w base e f L) {i : ι} {A : Option Addr} {n c : Nat} (hf : f i = .slice A n c) : Sl w w.heap.size 1 A n (strs (L i)) := by
  have ho := h.own i
  obtain ⟨A', c', hv, _⟩ := h.form i
  rw [hf] at hv
  simp at hv
  obtain ⟨rfl, rfl, rfl⟩ := hv
  rw [hf] at ho
  exact Sl.of_own ho
theorem Grp.app [DecidableEq ι] (h : Grp w base e f L) (i : ι) {s : ByteArray} {g cap : Nat} (ho : w'.ownsRow base e 1 (.slice (some ⟨g, 0, none⟩) ((L i).length + 1) cap) ((L i).length + 1) (strs (L i) ++ [.string s])) (hg : w.grownBy w' (f i).ownBlock)
    (hat : (f i).ownBlock = some g ∨ g = w.heap.size) : Grp w' base e (fun j => if j = i then .slice (some ⟨g, 0, none⟩) ((L i).length + 1) cap else f j) (fun j => if j = i then L i ++ [s] else L j) := by
  have hlt : ∀ j k, (f j).ownBlock = some k → k < w.heap.size := fun j k hk => ((h.own j).lt k hk).2
  refine ⟨fun j => ?_, fun j l k hj hl => ?_⟩
  · by_cases hji : j = i
    · simp only [hji, if_true]
      rw [List.length_append]
      have : strs (L i ++ [s]) = strs (L i) ++ [.string s] := by simp [strs]
      rw [this]
      exact ho
    · simp only [hji, if_false]
      refine (h.own j).kept hg ?_
      cases hv : (f j).ownBlock with
      | none => exact .inl rfl
      | some k => exact .inr (fun e' => hji (h.apart j i k hv e'.symm))
  · have new : ∀ j, j ≠ i → (f j).ownBlock = some g → False := fun j hj hb => by
      rcases hat with hat | hat
      · exact hj (h.apart j i g hb hat)
      · have := hlt j g hb; omega
    by_cases hji : j = i
    · by_cases hli : l = i
      · rw [hji, hli]
      · simp only [hji, if_true, hli, if_false] at hj hl
        have : g = k := by simpa [Value.ownBlock] using hj
        exact (new l hli (this ▸ hl)).elim
    · by_cases hli : l = i
      · simp only [hji, if_false, hli, if_true] at hj hl
        have : g = k := by simpa [Value.ownBlock] using hl
        exact (new j hji (this ▸ hj)).elim
      · simp only [hji, hli, if_false] at hj hl
        exact h.apart j l k hj hl
end
theorem Sl.str_at {w : World} {B n k : Nat} {A : Option Addr} {l : List ByteArray} (h : Sl w B 1 A n (strs l)) (hk : k < n) : ∃ b off x, A = some ⟨b, off, none⟩ ∧ b < B ∧ l[k]? = some x ∧ w.cell? ⟨b, off + k, none⟩ = some (.string x) := by
  obtain ⟨b, off, e, hb, hc⟩ := h.2 (by omega)
  have hl : l.length = n := by have := h.1; rw [strs_len] at this; omega
  have hx : l[k]? = some (l[k]'(by omega)) := List.getElem?_eq_getElem _
  exact ⟨b, off, _, e, hb, hx, hc k _ (by simp [strs, hx])⟩
end Go.Proofs.YtddlohbhchjjhaaGreatDoor

namespace Go.Proofs.YtddlohbhchjjhaaGreatDoor
open Go.RowKit

variable {F : Fence} {n : Nat} {P : Program}

end Go.Proofs.YtddlohbhchjjhaaGreatDoor

namespace Go.Proofs.YtddlohbhchjjhaaGreatDoor
open Go.RowKit

def SeqP {α : Type} (F : Fence) (n : Nat) (P : Program) (g : Nat) (lb : Array Value) (encs : α → Array Value) (Kp St : World → World → Prop) (Pf S Sp : List α → Prop) (w : World) : Prop :=
  ∀ (l : Nat) (J Jx : List α → World → Prop) (W : World), Below w.heap.size w W → (∀ pre A B, J pre A → St A B → J pre B) →
    (∀ pre x W1, Pf (pre ++ [x]) → J pre W1 → YieldAt F (n - 1) P l (encs x) W1 fun e W' =>
      (e = .returned (.bool true) ∧ J (pre ++ [x]) W' ∧ Kp W1 W') ∨ (e = .returned (.bool false) ∧ Jx (pre ++ [x]) W')) →
    J [] W →
    CallsIn F n P g (#[.func (.yield l) #[] #[]] ++ lb) W fun e W' => (∃ v, e = .returned v) ∧ ((∃ xs, S xs ∧ J xs W') ∨ (∃ pre, Sp pre ∧ Jx pre W'))

variable {F : Fence} {n : Nat} {P : Program}

theorem wpIn_rangeP {α : Type} {g : Operand} {ps : Array Tmp} {assign body : Code} {Q : Exit → Act → World → Prop} {a : Act} {w : World}
    (hro : F.round = none) (h1 : 1 ≤ n) {gf : Nat} {lb : Array Value} (hg : a.eval g = .func (.func gf) #[] lb) (hFg : F.fn gf) (eg : ∀ args w, (callFunc gf args).run P w = .ok (.enter gf args) w)
    {encs : α → Array Value} {Kp St : World → World → Prop} {Pf S Sp : List α → Prop} {w0 : World} (hseq : SeqP F (n - 1) P gf lb encs Kp St Pf S Sp w0)
    (hKt : ∀ {A B C : World}, Kp A B → Kp B C → Kp A C) (hKb : ∀ (W : World) (l : Nat) (o' : Obj), w.heap.size ≤ l → Kp W (W.putObj l o')) (hSo : ∀ A B, St A B → KeepsOthers A B) (hb0 : Below w0.heap.size w0 w) (hps : ∀ x, (encs x).size = ps.size)
    (I : List α → World → Prop) (Ix : Code → List α → World → Prop) (hI : OwnFrom w.heap.size I) (hIx : ∀ c, OwnFrom w.heap.size (Ix c)) (hIS : ∀ pre A B, I pre A → St A B → I pre B) (h0 : I [] w) (a₁ : α → Act)
    (hassign : ∀ (l : Nat) (x : α) (W : World) (K : Act → World → Prop), K (a₁ x) W →
      assign.wpIn (F.inRound l) (n - 1 - 1) P (Exit.then K (fun _ _ _ => False)) { tmps := (ps.zip (encs x)).foldl (fun t (p, v) => t.setIfInBounds p v) a.tmps, defers := [] } W)
    (hbody : ∀ (l : Nat) (pre : List α) (x : α) (W : World), Pf (pre ++ [x]) → I pre W → body.wpIn (F.inRound l) (n - 1 - 1) P (ownPostK Kp I Ix (pre ++ [x]) W) (a₁ x) W)
    (hdone : ∀ (D : Nat) (xs : List α) (W : World), w.heap.size ≤ D → S xs → I xs W → W.heap[D]? = some (.deferred (some [])) → Q .normal { a with defers := { target := .collected D, args := #[] } :: a.defers } W)
    (hstop : ∀ (D : Nat) (c : Code) (pre : List α) (W : World), w.heap.size ≤ D → Sp pre → Ix c pre W → W.heap[D]? = some (.deferred (some [])) → c.wpIn F n P Q { a with defers := { target := .collected D, args := #[] } :: a.defers } W) :
    (Code.rangeFunc g ps assign body).wpIn F n P Q a w := by
  refine wpIn_rangeFunc ?_
  intro fn hfn
  rw [hro]
  -- the loop's record in block L, the block of its deferred calls in block D
  obtain ⟨D, hD⟩ : ∃ D, w.heap.size = D := ⟨_, rfl⟩
  obtain ⟨rec, hrec⟩ : ∃ rec : LoopState → Option Code → Loop, rec = fun st pe => { state := st, pending := pe, fn, tmps := a.tmps, params := ps, assign, body, defers := D } := ⟨_, rfl⟩
  obtain ⟨W1, hW1⟩ : ∃ W1, (w.alloc (.deferred (some []))).alloc (.loop (rec .ready none)) = W1 := ⟨_, rfl⟩
  have hL1 : W1.heap[D + 1]? = some (.loop (rec .ready none)) := by
    rw [← hW1, ← hD]; have := World.alloc_heap_new (w.alloc (.deferred (some []))) (.loop (rec .ready none)); rwa [World.size_alloc] at this
  have hK1 : W1.heap[D]? = some (.deferred (some [])) := by
    rw [← hW1, ← hD]; exact (Below.heap_alloc _ _ _ (by simp)).trans (World.alloc_heap_new w _)
  have hI1 : I [] W1 := by rw [← hW1]; exact hI.alloc _ (hI.alloc _ h0)
  have hb1 : Below w0.heap.size w0 W1 := by
    rw [← hW1]; exact hb0.trans ((((Below.refl _ w).alloc (Nat.le_refl _) _).alloc (by simp) _).mono hb0.size)
  refine ⟨D + 1, [{ target := .collected D, args := #[] }], W1, { target := .fn (.func gf) lb, args := #[.func (.yield (D + 1)) #[] #[]] }, W1, gf,
    #[.func (.yield (D + 1)) #[] #[]] ++ lb, W1, ?_, ?_, ?_, ?_, fun _ => h1, ?_⟩
  · rw [← hW1, hrec, ← hD]; exact run_enterLoop_outer _ _ _ _ _
  · simp only [resolve, hg]
    simp [go_sem]
  · intro f' hf'; simp [Target.leads] at hf'; subst hf'; exact hFg
  · simp [invoke, go_sem, eg]
  · refine (hseq (D + 1)
      (fun pre W => I pre W ∧ W.heap[D + 1]? = some (.loop (rec .ready none)) ∧ W.heap[D]? = some (.deferred (some [])))
      (fun pre W => ∃ c, Ix c pre W ∧ W.heap[D + 1]? = some (.loop (rec .done (some c))) ∧ W.heap[D]? = some (.deferred (some [])))
      W1 hb1
      (fun pre A B hs hst => ⟨hIS pre A B hs.1 hst, (hSo A B hst).same _ _ hs.2.1 rfl, (hSo A B hst).same _ _ hs.2.2 rfl⟩)
      ?_ ⟨hI1, hL1, hK1⟩).mono ?_
    · rintro pre x W hpf ⟨hi, hl, hk⟩
      have hlt : D + 1 < W.heap.size := (Array.getElem?_eq_some_iff.1 hl).1
      have hy := run_yield (P := P) (args := encs x) hl (by rw [hrec]; exact hps x)
      rw [hrec] at hy
      refine ⟨fn, _, assign, body, hy, roundIn_of_wpIn hfn (hassign _ x W _ ⟨_, run_beginRound hl (by rw [hrec]), ?_⟩)⟩
      obtain ⟨W2, hW2⟩ : ∃ W2, W.putObj (D + 1) (.loop { rec .ready none with state := .busy }) = W2 := ⟨_, rfl⟩
      have hl2 : W2.heap[D + 1]? = some (.loop { rec .ready none with state := .busy }) := by rw [← hW2]; exact World.putObj_heap_same hlt
      have hk2 : W2.heap[D]? = some (.deferred (some [])) := by rw [← hW2]; exact (World.putObj_heap_other (by omega)).trans hk
      have hw2 : Kp W W2 := by rw [← hW2]; exact hKb _ _ _ (by omega)
      have hi2 : I pre W2 := by rw [← hW2]; exact hI.putObj _ hi (by omega) hl rfl
      rw [hW2]
      refine wpIn_mono (hbody _ pre x _ hpf hi2) ?_
      have fin : ∀ (jump : Option Code) (W3 : World), KeepsOthers W2 W3 →
          (Instr.endRound (D + 1) jump).run P W3 = .ok (.bool jump.isNone) (W3.putObj (D + 1) (.loop (rec (if jump.isNone then .ready else .done) jump))) ∧
          W3.heap[D + 1]? = some (.loop { rec .ready none with state := .busy }) ∧
          (W3.putObj (D + 1) (.loop (rec (if jump.isNone then .ready else .done) jump))).heap[D + 1]? = some (.loop (rec (if jump.isNone then .ready else .done) jump)) ∧
          (W3.putObj (D + 1) (.loop (rec (if jump.isNone then .ready else .done) jump))).heap[D]? = some (.deferred (some [])) := fun jump W3 hk3 => by
        have hl3 := hk3.same _ _ hl2 rfl
        have := run_endRound (P := P) jump hl3
        rw [hrec] at this ⊢
        exact ⟨this, by rw [hrec] at hl3; exact hl3, World.putObj_heap_same (Array.getElem?_eq_some_iff.1 hl3).1, (World.putObj_heap_other (by omega)).trans (hk3.same _ _ hk2 rfl)⟩
      rintro e a3 W3 hp
      cases e with
      | normal =>
        obtain ⟨hk3, hkp3, hi3⟩ := hp
        obtain ⟨hr, hl3, hl4, hk4⟩ := fin none W3 hk3
        exact ⟨_, _, hr, .inl ⟨rfl, ⟨hI.putObj _ hi3 (by omega) hl3 rfl, hl4, hk4⟩, hKt (hKt hw2 hkp3) (hKb _ _ _ (by omega))⟩⟩
      | ret =>
        obtain ⟨hk3, hi3⟩ := hp
        obtain ⟨hr, hl3, hl4, hk4⟩ := fin (some .ret) W3 hk3
        exact ⟨_, _, hr, .inr ⟨rfl, .ret, (hIx _).putObj _ hi3 (by omega) hl3 rfl, hl4, hk4⟩⟩
      | exit id =>
        obtain ⟨hk3, hi3⟩ := hp
        obtain ⟨hr, hl3, hl4, hk4⟩ := fin (some (.exit id)) W3 hk3
        exact ⟨_, _, hr, .inr ⟨rfl, .exit id, (hIx _).putObj _ hi3 (by omega) hl3 rfl, hl4, hk4⟩⟩
      | goto t =>
        obtain ⟨hk3, hi3⟩ := hp
        obtain ⟨hr, hl3, hl4, hk4⟩ := fin (some (.goto t)) W3 hk3
        exact ⟨_, _, hr, .inr ⟨rfl, .goto t, (hIx _).putObj _ hi3 (by omega) hl3 rfl, hl4, hk4⟩⟩
      | panic ch => exact hp.elim
      | outgrown => exact hp.elim
    · rintro e W2 ⟨⟨v, rfl⟩, (⟨xs, hS, hi, hl, hk⟩ | ⟨pre, hSp, c, hi, hl, hk⟩)⟩
      · exact ⟨none, _, by have := run_endLoop (P := P) hl (by rw [hrec]; simp); rw [hrec] at this; exact this, hdone _ xs _ (by omega) hS (hI.putObj _ hi (by omega) hl rfl) ((World.putObj_heap_other (by omega)).trans hk)⟩
      · exact ⟨some c, _, by have := run_endLoop (P := P) hl (by rw [hrec]; simp); rw [hrec] at this; exact this, hstop _ c pre _ (by omega) hSp ((hIx c).putObj _ hi (by omega) hl rfl) ((World.putObj_heap_other (by omega)).trans hk)⟩
end Go.Proofs.YtddlohbhchjjhaaGreatDoor

namespace Go.Proofs.YtddlohbhchjjhaaGreatDoor
open Go.RowKit

theorem halt_ {p : Prop} (h : Hid p) : p := h
theorem unhalt {p : Prop} (h : p) : Hid p := h

section
variable {P : Program} {w : World} {base size n : Nat} {e : TypeId} {v : Value} {xs : List Value}

theorem ownsRow_form (h : w.ownsRow base e size v n xs) : ∃ A c, v = .slice A n c ∧ n ≤ c ∧ c ≤ maxLen := by
  rcases h.2 with ⟨rfl, rfl⟩ | ⟨g, cap, cur, rfl, _, _, h1, h2, _⟩
  · exact ⟨none, 0, rfl, Nat.le_refl _, Nat.zero_le _⟩
  · exact ⟨_, cap, rfl, h1, h2⟩
theorem ownsRow_lower {base' : Nat} (h : w.ownsRow base e size v n xs) (hb : base' ≤ base) : w.ownsRow base' e size v n xs := by
  refine ⟨h.1, ?_⟩
  rcases h.2 with h | ⟨g, cap, cur, h1, h2, h3⟩
  · exact .inl h
  · exact .inr ⟨g, cap, cur, h1, by omega, h3⟩
theorem ownsRow_apart {base' size' n' : Nat} {e' : TypeId} {v' : Value} {xs' : List Value} (h : w.ownsRow base e size v n xs) (h' : w.ownsRow base' e' size' v' n' xs') (hne : e' ≠ e) : v'.ownBlock = none ∨ v'.ownBlock ≠ v.ownBlock := by
  rcases h'.2 with ⟨rfl, _⟩ | ⟨g', cap', cur', rfl, _, hh', _⟩
  · exact .inl rfl
  · rcases h.2 with ⟨rfl, _⟩ | ⟨g, cap, cur, rfl, _, hh, _⟩
    · exact .inr (by simp [Value.ownBlock])
    · refine .inr fun he => ?_
      simp only [Value.ownBlock, Option.some.injEq] at he
      subst he
      rw [hh] at hh'
      injection hh' with hh'
      injection hh' with _ ht
      exact hne ht.symm
theorem ownBlock_ge (h : w.ownsRow base e size v n xs) : ∀ k, v.ownBlock = some k → base ≤ k := fun k hk => (h.lt k hk).1

theorem run_append_sl (t ty : TypeId) (i : TypeInfo) (z : Value) (bytes : Nat) (ht : P.underlying t = some (.slice e)) (hi : P.info? e = some i) (hz : i.zero = some z)
    (hsize : i.size = size) (hby : i.bytes = bytes) (hzs : z.cells.size = size) (hsz : 0 < size) (hown : w.ownsRow base e size v n xs)
    {B : Nat} {A : Option Addr} {m c : Nat} {ys : List Value} (hsl : Sl w B size A m ys) (h1 : ∀ u ∈ ys, u.oneCell' = true)
    (h63 : n + m ≤ maxLen) (hbytes : (n + m) * bytes ≤ 140737488355328) (hbase : base ≤ w.heap.size) :
    ∃ A' c' w', (Builtin.append_ #[t, t] ty #[v, .slice A m c]).run P w = .ok (.slice A' (n + m) c') w' ∧ w'.ownsRow base e size (.slice A' (n + m) c') (n + m) (xs ++ ys) ∧ w.grownBy w' v.ownBlock ∧ n + m ≤ c' ∧ c' ≤ maxLen := by
  have key : ∃ v' w', (Builtin.append_ #[t, t] ty #[v, .slice A m c]).run P w = .ok v' w' ∧ w'.ownsRow base e size v' (n + m) (xs ++ ys) ∧ w.grownBy w' v.ownBlock := by
    cases A with
    | none =>
      have hm : m = 0 := by
        rcases Nat.eq_zero_or_pos m with h | h
        · exact h
        · obtain ⟨b, off, e1, _⟩ := hsl.2 h; cases e1
      subst hm
      have hy : ys = [] := by
        have := hsl.1; rw [Nat.zero_mul] at this; exact List.length_eq_zero_iff.1 this
      subst hy
      refine ⟨v, w, ?_, by simpa using hown, ⟨rfl, rfl, rfl, Nat.le_refl _, fun _ _ _ => rfl⟩⟩
      rcases hown.2 with ⟨rfl, rfl⟩ | ⟨g, cap, cur, rfl, _, _, hnc, _⟩
      · simp [Builtin.append_, run_underlying ht, sizeOf, typeInfo, hi, Builtin.lenOf, Builtin.firstCells]
      · simp [Builtin.append_, run_underlying ht, sizeOf, typeInfo, hi, Builtin.lenOf, Builtin.firstCells, hnc, storeCells]
    | some ad =>
      have hc : ∀ j u, ys[j]? = some u → w.cell? (ad.add j) = some u := by
        intro j u hu
        have hm : 0 < m := by
          rcases Nat.eq_zero_or_pos m with h | h
          · subst h
            have := hsl.1; rw [Nat.zero_mul] at this
            rw [List.length_eq_zero_iff.1 this] at hu; cases hu
          · exact h
        obtain ⟨b, off, e1, _, hcell⟩ := hsl.2 hm
        cases e1
        rw [Addr.add_lit]; exact hcell j u hu
      obtain ⟨v', w', hr, ho, hg, _⟩ := run_append_own (P := P) w base t ty e i z size bytes ht hi hz hsize hby hzs hsz v n xs hown ad m c ys hsl.1 hc h1 h63 hbytes hbase
      exact ⟨v', w', hr, ho, hg⟩
  obtain ⟨v', w', hr, ho, hg⟩ := key
  obtain ⟨A', c', rfl, hc1, hc2⟩ := ownsRow_form ho
  exact ⟨A', c', w', hr, ho, hg, hc1, hc2⟩

theorem wpList_append_sl (w : World) {ops : Array Oper} {rest : List Oper} {o : Oper} {a : Act} {Q : Exit → Act → World → Prop} (hgd : o.guard = none) (s x : Operand) (t : TypeId)
    (ho : o.op = .call { callee := .builtin .append, args := #[s, x], argTypes := #[t, t] })
    (e : TypeId) (i : TypeInfo) (z : Value) (bytes : Nat) (ht : P.underlying t = some (.slice e)) (hi : P.info? e = some i) (hz : i.zero = some z)
    (hsize : i.size = size) (hby : i.bytes = bytes) (hzs : z.cells.size = size) (hsz : 0 < size)
    (v : Value) (n : Nat) (xs : List Value) (hs : a.eval s = v) (hown : w.ownsRow base e size v n xs)
    (B : Nat) (A : Option Addr) (m c : Nat) (ys : List Value) (hx : a.eval x = .slice A m c) (hsl : Sl w B size A m ys) (h1 : ∀ u ∈ ys, u.oneCell' = true)
    (h63 : n + m ≤ maxLen) (hbytes : (n + m) * bytes ≤ 140737488355328) (hbase : base ≤ w.heap.size)
    (h : ∀ A' c' w', w'.ownsRow base e size (.slice A' (n + m) c') (n + m) (xs ++ ys) → w.grownBy w' v.ownBlock → n + m ≤ c' → c' ≤ maxLen → wpList P ops Q rest (a.put o.dst (.slice A' (n + m) c')) w') : wpList P ops Q (o :: rest) a w := by
  refine wpList_plain hgd fun K hK => ?_
  obtain ⟨A', c', w', hr, ho', hg, hc1, hc2⟩ := run_append_sl (P := P) t o.type i z bytes ht hi hz hsize hby hzs hsz hown (c := c) hsl h1 h63 hbytes hbase
  unfold Oper.wp
  simp [execOp, ho, resolve, invoke, builtin, hs, hx, hr, Result.andThen]
  exact hK _ _ (h A' c' w' ho' hg hc1 hc2)

theorem run_slice_to (t : TypeId) (i : TypeInfo) (ht : P.underlying t = some (.slice e)) (hi : P.info? e = some i) (A : Option Addr) (n c k : Nat) (hk : k ≤ c) (w : World) :
    (Instr.sliceAt t (.slice A n c) none (some (.int .i64 k)) none).run P w = .ok (.slice A k c) w := by
  have hA : Option.map (fun x : Addr => x.add 0) A = A := by cases A <;> simp [Addr.add]
  simp [Instr.sliceAt, Instr.slice, run_underlying ht, Instr.sliceBounds, Instr.sliceBound, asIntOf, hk, sizeOf, typeInfo, hi, hA]

theorem run_slice_from (t : TypeId) (i : TypeInfo) (ht : P.underlying t = some (.slice e)) (hi : P.info? e = some i) (hsz : i.size = size) (A : Option Addr) (n c k : Nat) (hk : k ≤ n) (hnc : n ≤ c) :
    ∃ Ak, (∀ w : World, (Instr.sliceAt t (.slice A n c) (some (.int .i64 k)) none none).run P w = .ok (.slice Ak (n - k) (c - k)) w) ∧ ∀ (w : World) (B : Nat) (xs : List Value), Sl w B size A n xs → Sl w B size Ak (n - k) (xs.drop (k * size)) := by
  refine ⟨if c = k then A else A.map (·.add (k * size)), fun w => ?_, fun w B xs h => ?_⟩
  · simp [Instr.sliceAt, Instr.slice, run_underlying ht, Instr.sliceBounds, Instr.sliceBound, asIntOf, hk, sizeOf, typeInfo, hi, hsz]
  · refine ⟨by rw [List.length_drop, h.1, Nat.sub_mul], fun hn => ?_⟩
    obtain ⟨b, off, rfl, hb, hc⟩ := h.2 (by omega)
    rw [if_neg (by omega)]
    refine ⟨b, off + k * size, by simp [Addr.add_lit], hb, fun j u hu => ?_⟩
    rw [Nat.add_assoc]
    exact hc _ u (by rw [List.getElem?_drop] at hu; exact hu)
end
end Go.Proofs.YtddlohbhchjjhaaGreatDoor

namespace Go.Proofs.YtddlohbhchjjhaaGreatDoor
open Go.RowKit Go.Maps

def less (s t : ByteArray) : Bool := Op.bytesLess s.data.toList t.data.toList
theorem data_inj {s t : ByteArray} (h : s.data.toList = t.data.toList) : s = t := by
  cases s; cases t; congr 1; exact Array.toList_inj.1 h
theorem sameKey_str (a b : List UInt8) : (Lit.string a).sameKey (.string b) = (a == b) := rfl
theorem less_irrefl : ∀ (a : List UInt8), Op.bytesLess a a = false
  | [] => rfl
  | a :: r => by simp [Op.bytesLess, less_irrefl r]
theorem less_trans : ∀ (a b c : List UInt8), Op.bytesLess a b = true → Op.bytesLess b c = true → Op.bytesLess a c = true
  | [], [], _ => by simp [Op.bytesLess]
  | [], _ :: _, [] => by simp [Op.bytesLess]
  | [], _ :: _, _ :: _ => by simp [Op.bytesLess]
  | _ :: _, [], _ => by simp [Op.bytesLess]
  | _ :: _, _ :: _, [] => by simp [Op.bytesLess]
  | a :: r, b :: s, c :: t => by
    simp only [Op.bytesLess, Bool.or_eq_true, Bool.and_eq_true, decide_eq_true_eq, beq_iff_eq]
    rintro (h1 | ⟨rfl, h1⟩) (h2 | ⟨rfl, h2⟩)
    · exact .inl (UInt8.lt_trans h1 h2)
    · exact .inl h1
    · exact .inl h2
    · exact .inr ⟨rfl, less_trans r s t h1 h2⟩
theorem less_conn : ∀ (a b : List UInt8), Op.bytesLess a b = false → Op.bytesLess b a = false → a = b
  | [], [] => fun _ _ => rfl
  | [], _ :: _ => by simp [Op.bytesLess]
  | _ :: _, [] => by simp [Op.bytesLess]
  | a :: r, b :: s => by
    simp only [Op.bytesLess, Bool.or_eq_false_iff, Bool.and_eq_false_iff, decide_eq_false_iff_not, beq_eq_false_iff_ne]
    rintro ⟨h1, h2⟩ ⟨h3, h4⟩
    have e : a = b := by
      apply UInt8.toNat_inj.1
      rw [UInt8.lt_iff_toNat_lt] at h1 h3
      omega
    subst e
    rcases h2 with h2 | h2
    · exact absurd rfl h2
    · rcases h4 with h4 | h4
      · exact absurd rfl h4
      · rw [less_conn r s h2 h4]

end Go.Proofs.YtddlohbhchjjhaaGreatDoor

namespace Go.Proofs.YtddlohbhchjjhaaGreatDoor

def Asc (l : List ByteArray) : Prop := l.Pairwise (fun a b => less a b = true)
theorem lessB_irrefl (a : ByteArray) : less a a = false := less_irrefl _
theorem lessB_trans {a b c : ByteArray} (h : less a b = true) (h' : less b c = true) : less a c = true := less_trans _ _ _ h h'
theorem lessB_conn {a b : ByteArray} (h : less a b = false) (h' : less b a = false) : a = b := data_inj (less_conn _ _ h h')
theorem lessB_ne {a b : ByteArray} (h : less a b = true) : a ≠ b := by rintro rfl; rw [lessB_irrefl] at h; cases h
theorem lessB_asymm {a b : ByteArray} (h : less a b = true) : less b a = false := by
  cases h' : less b a with
  | false => rfl
  | true => have := lessB_trans h h'; rw [lessB_irrefl] at this; cases this
theorem Asc.tail {a : ByteArray} {l : List ByteArray} (h : Asc (a :: l)) : Asc l := (List.pairwise_cons.1 h).2
theorem Asc.nodup {l : List ByteArray} (h : Asc l) : l.Nodup := List.Pairwise.imp (fun h => lessB_ne h) h
theorem asc_ext : ∀ {l m : List ByteArray}, Asc l → Asc m → (∀ x, x ∈ l ↔ x ∈ m) → l = m
  | [], [], _, _, _ => rfl
  | [], b :: m, _, _, h => by have := (h b).2 (by simp); cases this
  | a :: l, [], _, _, h => by have := (h a).1 (by simp); cases this
  | a :: l, b :: m, hl, hm, h => by
    have ha := List.pairwise_cons.1 hl
    have hb := List.pairwise_cons.1 hm
    have e : a = b := by
      rcases List.mem_cons.1 ((h a).1 (by simp)) with e | e
      · exact e
      · rcases List.mem_cons.1 ((h b).2 (by simp)) with e' | e'
        · exact e'.symm
        · have h1 := hb.1 a e
          have h2 := ha.1 b e'
          have := lessB_trans h1 h2
          rw [lessB_irrefl] at this; cases this
    subst e
    congr 1
    refine asc_ext ha.2 hb.2 fun x => ⟨fun hx => ?_, fun hx => ?_⟩
    · rcases List.mem_cons.1 ((h x).1 (by simp [hx])) with e | e
      · subst e; have := ha.1 x hx; rw [lessB_irrefl] at this; cases this
      · exact e
    · rcases List.mem_cons.1 ((h x).2 (by simp [hx])) with e | e
      · subst e; have := hb.1 x hx; rw [lessB_irrefl] at this; cases this
      · exact e
def insS : List ByteArray → ByteArray → List ByteArray
  | [], s => [s]
  | r :: l, s => if less r s then r :: insS l s else if r = s then r :: l else s :: r :: l
theorem mem_insS : ∀ (l : List ByteArray) (s x : ByteArray), x ∈ insS l s ↔ x ∈ l ∨ x = s
  | [], s, x => by simp [insS]
  | r :: l, s, x => by
    simp only [insS]
    by_cases h1 : less r s = true
    · rw [if_pos h1, List.mem_cons, mem_insS l s x, List.mem_cons]
      constructor
      · rintro (e | e | e)
        · exact .inl (.inl e)
        · exact .inl (.inr e)
        · exact .inr e
      · rintro ((e | e) | e)
        · exact .inl e
        · exact .inr (.inl e)
        · exact .inr (.inr e)
    · rw [if_neg h1]
      by_cases h2 : r = s
      · rw [if_pos h2]
        constructor
        · exact .inl
        · rintro (e | e)
          · exact e
          · rw [e, ← h2]; simp
      · rw [if_neg h2, List.mem_cons]
        constructor
        · rintro (e | e)
          · exact .inr e
          · exact .inl e
        · rintro (e | e)
          · exact .inr e
          · exact .inl e
theorem asc_insS : ∀ {l : List ByteArray} (s : ByteArray), Asc l → Asc (insS l s)
  | [], s, _ => List.pairwise_singleton _ _
  | r :: l, s, h => by
    have hc := List.pairwise_cons.1 h
    simp only [insS]
    by_cases h1 : less r s = true
    · rw [if_pos h1]
      refine List.pairwise_cons.2 ⟨fun x hx => ?_, asc_insS s hc.2⟩
      rcases (mem_insS l s x).1 hx with e | e
      · exact hc.1 x e
      · rw [e]; exact h1
    · rw [if_neg h1]
      by_cases h2 : r = s
      · rw [if_pos h2]; exact h
      · rw [if_neg h2]
        have hsr : less s r = true := by
          cases hx : less s r with
          | true => rfl
          | false => exact absurd (lessB_conn (by simpa using h1) hx) h2
        refine List.pairwise_cons.2 ⟨fun x hx => ?_, h⟩
        rcases List.mem_cons.1 hx with e | e
        · rw [e]; exact hsr
        · exact lessB_trans hsr (hc.1 x e)
def posS : List ByteArray → ByteArray → Nat
  | [], _ => 0
  | r :: l, s => if less r s then posS l s + 1 else 0
theorem posS_le : ∀ (l : List ByteArray) (s : ByteArray), posS l s ≤ l.length
  | [], _ => Nat.le_refl _
  | r :: l, s => by simp only [posS]; split <;> simp; exact posS_le l s
theorem insS_has : ∀ {l : List ByteArray} {s : ByteArray}, l[posS l s]? = some s → insS l s = l
  | [], s, h => by simp at h
  | r :: l, s, h => by
    simp only [insS]
    by_cases h1 : less r s = true
    · have e : posS (r :: l) s = posS l s + 1 := by simp [posS, h1]
      rw [e, List.getElem?_cons_succ] at h
      rw [if_pos h1, insS_has h]
    · have e : posS (r :: l) s = 0 := by simp [posS, h1]
      rw [e, List.getElem?_cons_zero] at h
      rw [if_neg h1, if_pos (by simpa using h)]
theorem insS_new : ∀ {l : List ByteArray} {s : ByteArray}, l[posS l s]? ≠ some s → insS l s = l.take (posS l s) ++ [s] ++ l.drop (posS l s)
  | [], s, _ => by simp [insS]
  | r :: l, s, h => by
    simp only [insS]
    by_cases h1 : less r s = true
    · have e : posS (r :: l) s = posS l s + 1 := by simp [posS, h1]
      rw [e, List.getElem?_cons_succ] at h
      rw [if_pos h1, insS_new h, e]
      simp
    · have e : posS (r :: l) s = 0 := by simp [posS, h1]
      rw [e, List.getElem?_cons_zero] at h
      rw [if_neg h1, if_neg (by simpa using h), e]
      simp
end Go.Proofs.YtddlohbhchjjhaaGreatDoor

namespace Go.Proofs
open Go.Shelf
def Tryz.lays169_ren : Go.Shelf.Ren := ⟨fun | 169 => 84 | n => n, fun | 70 => 105 | 9 => 9 | 0 => 0 | 72 => 108 | 37 => 106 | 127 => 146 | 3 => 3 | 5 => 5 | n => n, fun | n => n⟩
theorem Tryz.lays169 : Go.Proofs.Lays.n169 Tryz.prog Tryz.lays169_ren := {
  mixed := by kernel_rfl
  f169 := Tryz.func84.trans (congrArg some (by kernel_rfl))
  t0 := Tryz.underlying0
  a0 := Tryz.isAgg0
  z0 := Tryz.sizeOf0
  v0 := Tryz.zeroValue0
  t3 := Tryz.underlying3
  a3 := Tryz.isAgg3
  z3 := Tryz.sizeOf3
  v3 := Tryz.zeroValue3
  t9 := Tryz.underlying9
  a9 := Tryz.isAgg9
  z9 := Tryz.sizeOf9
  v9 := Tryz.zeroValue9
  t37 := Tryz.underlying106
  a37 := Tryz.isAgg106
  z37 := Tryz.sizeOf106
  v37 := Tryz.zeroValue106
  t70 := Tryz.underlying105
  a70 := Tryz.isAgg105
  z70 := Tryz.sizeOf105
  v70 := Tryz.zeroValue105
  t72 := Tryz.underlying108
  a72 := Tryz.isAgg108
  z72 := Tryz.sizeOf108
  v72 := Tryz.zeroValue108
  t127 := Tryz.underlying146
  a127 := Tryz.isAgg146
  z127 := Tryz.sizeOf146
  v127 := Tryz.zeroValue146 }
theorem Tryz.Builder_Extra_169 : Builder.Extra Tryz.prog Tryz.lays169_ren := {
  sizeBuilder := by kernel_rfl
  liesBuilder := by kernel_rfl
  t5 := Tryz.underlying5
  a5 := Tryz.isAgg5
  z5 := Tryz.sizeOf5
  v5 := Tryz.zeroValue5
  infoByte := by kernel_rfl
  cellsByte := by kernel_rfl
  sizeByte := by kernel_rfl
  neB5 := by decide }
open Go.RowKit in
theorem Tryz.Builder_String_any (B b : Nat) (l : List UInt8) (w : World) (h : Lib.IsBuilder 108 5 B b (Lib.byteCells l) w) (hBw : B ≤ w.heap.size) :
    Calls Tryz.prog 84 #[.pointer (some ⟨b, 0, none⟩)] w fun e w' => e = .returned (.string ⟨l.toArray⟩) ∧ Below B w w' := Any.Builder_String_any Tryz.lays169 Tryz.Builder_Extra_169 B b l w h hBw
def Tryz.lays106_ren : Go.Shelf.Ren := ⟨fun | 106 => 52 | 213 => 97 | 265 => 151 | n => n, fun | 9 => 9 | 3 => 3 | n => n, fun | n => n⟩
theorem Tryz.lays106 : Go.Proofs.Lays.n106 Tryz.prog Tryz.lays106_ren := {
  mixed := by kernel_rfl
  f106 := Tryz.func52.trans (congrArg some (by kernel_rfl))
  f213 := Tryz.func97.trans (congrArg some (by kernel_rfl))
  f265 := Tryz.func151.trans (congrArg some (by kernel_rfl))
  t3 := Tryz.underlying3
  a3 := Tryz.isAgg3
  z3 := Tryz.sizeOf3
  v3 := Tryz.zeroValue3
  t9 := Tryz.underlying9
  a9 := Tryz.isAgg9
  z9 := Tryz.sizeOf9
  v9 := Tryz.zeroValue9 }
open Go.RowKit in
theorem Tryz.strings_Compare (a b : ByteArray) (w : World) :
    Calls Tryz.prog 52 #[.string a, .string b] w fun e w' => e = .returned (.int .i64 (Lib.compareBytes a.data.toList b.data.toList)) ∧ w' = w := Any.strings_Compare Tryz.lays106 a b w
def Tryz.lays104_ren : Go.Shelf.Ren := ⟨fun | 104 => 217 | 211 => 236 | 207 => 105 | n => n, fun | 9 => 9 | 4 => 4 | 24 => 91 | 3 => 3 | n => n, fun | n => n⟩
theorem Tryz.lays104 : Go.Proofs.Lays.n104 Tryz.prog Tryz.lays104_ren := {
  mixed := by kernel_rfl
  f104 := Tryz.func217.trans (congrArg some (by kernel_rfl))
  f207 := Tryz.func105.trans (congrArg some (by kernel_rfl))
  f211 := Tryz.func236.trans (congrArg some (by kernel_rfl))
  t3 := Tryz.underlying3
  a3 := Tryz.isAgg3
  z3 := Tryz.sizeOf3
  v3 := Tryz.zeroValue3
  t4 := Tryz.underlying4
  a4 := Tryz.isAgg4
  z4 := Tryz.sizeOf4
  v4 := Tryz.zeroValue4
  t9 := Tryz.underlying9
  a9 := Tryz.isAgg9
  z9 := Tryz.sizeOf9
  v9 := Tryz.zeroValue9
  t24 := Tryz.underlying91
  a24 := Tryz.isAgg91
  z24 := Tryz.sizeOf91
  v24 := Tryz.zeroValue91 }
open Go.RowKit in
theorem Tryz.strings_CutSuffix (s p : ByteArray) (w : World) (hs : s.size ≤ 9223372036854775807) :
    Calls Tryz.prog 217 #[.string s, .string p] w fun e w' => e = .returned (.tuple #[.string ⟨(Lib.trimSuffix s.data.toList p.data.toList).toArray⟩, .bool (Lib.hasSuffix s.data.toList p.data.toList)]) ∧ w' = w := Any.strings_CutSuffix Tryz.lays104 s p w hs
def Tryz.lays143_ren : Go.Shelf.Ren := ⟨fun | 143 => 215 | 219 => 235 | 217 => 242 | 225 => 243 | 224 => 244 | 267 => 245 | 266 => 249 | 314 => 250 | n => n, fun | 9 => 9 | 3 => 3 | 4 => 4 | 5 => 5 | 46 => 117 | 146 => 253 | 51 => 155 | n => n, fun | 1 => 0 | n => n⟩
theorem Tryz.lays143 : Go.Proofs.Lays.n143 Tryz.prog Tryz.lays143_ren := {
  mixed := by kernel_rfl
  f143 := Tryz.func215.trans (congrArg some (by kernel_rfl))
  f217 := Tryz.func242.trans (congrArg some (by kernel_rfl))
  f219 := Tryz.func235.trans (congrArg some (by kernel_rfl))
  f224 := Tryz.func244.trans (congrArg some (by kernel_rfl))
  f225 := Tryz.func243.trans (congrArg some (by kernel_rfl))
  f266 := Tryz.func249.trans (congrArg some (by kernel_rfl))
  f267 := Tryz.func245.trans (congrArg some (by kernel_rfl))
  f314 := Tryz.func250.trans (congrArg some (by kernel_rfl))
  t3 := Tryz.underlying3
  a3 := Tryz.isAgg3
  z3 := Tryz.sizeOf3
  v3 := Tryz.zeroValue3
  t4 := Tryz.underlying4
  a4 := Tryz.isAgg4
  z4 := Tryz.sizeOf4
  v4 := Tryz.zeroValue4
  t5 := Tryz.underlying5
  a5 := Tryz.isAgg5
  z5 := Tryz.sizeOf5
  v5 := Tryz.zeroValue5
  t9 := Tryz.underlying9
  a9 := Tryz.isAgg9
  z9 := Tryz.sizeOf9
  v9 := Tryz.zeroValue9
  t46 := Tryz.underlying117
  a46 := Tryz.isAgg117
  z46 := Tryz.sizeOf117
  v46 := Tryz.zeroValue117
  t51 := Tryz.underlying155
  a51 := Tryz.isAgg155
  z51 := Tryz.sizeOf155
  v51 := Tryz.zeroValue155
  t146 := Tryz.underlying253
  a146 := Tryz.isAgg253
  z146 := Tryz.sizeOf253
  v146 := Tryz.zeroValue253
  g1 := by kernel_rfl }
open Go.RowKit Go.Lib in
theorem Tryz.strings_Index_one (s : ByteArray) (c : UInt8) (w : World) :
    Calls Tryz.prog 215 #[.string s, .string ⟨#[c]⟩] w fun e w' => e = .returned (.int .i64 (Lib.indexByte s.data.toList c)) ∧ w' = w := Any.strings_Index_one Tryz.lays143 s c w
def Tryz.lays144_ren : Go.Shelf.Ren := ⟨fun | 144 => 191 | 143 => 215 | 219 => 235 | 217 => 242 | 225 => 243 | 224 => 244 | 267 => 245 | 266 => 249 | 314 => 250 | n => n, fun | 9 => 9 | 4 => 4 | 3 => 3 | 5 => 5 | 46 => 117 | 146 => 253 | 51 => 155 | n => n, fun | 1 => 0 | n => n⟩
theorem Tryz.lays144 : Go.Proofs.Lays.n144 Tryz.prog Tryz.lays144_ren := {
  mixed := by kernel_rfl
  f143 := Tryz.func215.trans (congrArg some (by kernel_rfl))
  f144 := Tryz.func191.trans (congrArg some (by kernel_rfl))
  f217 := Tryz.func242.trans (congrArg some (by kernel_rfl))
  f219 := Tryz.func235.trans (congrArg some (by kernel_rfl))
  f224 := Tryz.func244.trans (congrArg some (by kernel_rfl))
  f225 := Tryz.func243.trans (congrArg some (by kernel_rfl))
  f266 := Tryz.func249.trans (congrArg some (by kernel_rfl))
  f267 := Tryz.func245.trans (congrArg some (by kernel_rfl))
  f314 := Tryz.func250.trans (congrArg some (by kernel_rfl))
  t3 := Tryz.underlying3
  a3 := Tryz.isAgg3
  z3 := Tryz.sizeOf3
  v3 := Tryz.zeroValue3
  t4 := Tryz.underlying4
  a4 := Tryz.isAgg4
  z4 := Tryz.sizeOf4
  v4 := Tryz.zeroValue4
  t5 := Tryz.underlying5
  a5 := Tryz.isAgg5
  z5 := Tryz.sizeOf5
  v5 := Tryz.zeroValue5
  t9 := Tryz.underlying9
  a9 := Tryz.isAgg9
  z9 := Tryz.sizeOf9
  v9 := Tryz.zeroValue9
  t46 := Tryz.underlying117
  a46 := Tryz.isAgg117
  z46 := Tryz.sizeOf117
  v46 := Tryz.zeroValue117
  t51 := Tryz.underlying155
  a51 := Tryz.isAgg155
  z51 := Tryz.sizeOf155
  v51 := Tryz.zeroValue155
  t146 := Tryz.underlying253
  a146 := Tryz.isAgg253
  z146 := Tryz.sizeOf253
  v146 := Tryz.zeroValue253
  g1 := by kernel_rfl }
open Go.RowKit Go.Lib in
theorem Tryz.strings_Contains_one (s : ByteArray) (c : UInt8) (w : World) :
    Calls Tryz.prog 191 #[.string s, .string ⟨#[c]⟩] w fun e w' => e = .returned (.bool (decide (0 ≤ Lib.indexByte s.data.toList c))) ∧ w' = w := Any.strings_Contains_one Tryz.lays144 s c w
def Tryz.lays190_ren : Go.Shelf.Ren := ⟨fun | 190 => 107 | 125 => 86 | 258 => 158 | 128 => 127 | 129 => 128 | 302 => 203 | 303 => 204 | 304 => 205 | 305 => 206 | 306 => 207 | 307 => 208 | 308 => 209 | 309 => 210 | 310 => 211 | 333 => 230 | 329 => 171 | 330 => 172 | 334 => 231 | 335 => 232 | 336 => 233 | 344 => 241 | n => n, fun | 31 => 33 | 9 => 9 | 3 => 3 | 46 => 117 | 0 => 0 | 51 => 155 | 53 => 120 | 4 => 4 | 183 => 149 | 182 => 148 | 131 => 90 | 5 => 5 | 218 => 193 | 222 => 197 | 228 => 229 | 229 => 230 | n => n, fun | n => n⟩
theorem Tryz.lays190 : Go.Proofs.Lays.n190 Tryz.prog Tryz.lays190_ren := {
  mixed := by kernel_rfl
  f125 := Tryz.func86.trans (congrArg some (by kernel_rfl))
  f128 := Tryz.func127.trans (congrArg some (by kernel_rfl))
  f129 := Tryz.func128.trans (congrArg some (by kernel_rfl))
  f190 := Tryz.func107.trans (congrArg some (by kernel_rfl))
  f258 := Tryz.func158.trans (congrArg some (by kernel_rfl))
  f302 := Tryz.func203.trans (congrArg some (by kernel_rfl))
  f303 := Tryz.func204.trans (congrArg some (by kernel_rfl))
  f304 := Tryz.func205.trans (congrArg some (by kernel_rfl))
  f305 := Tryz.func206.trans (congrArg some (by kernel_rfl))
  f306 := Tryz.func207.trans (congrArg some (by kernel_rfl))
  f307 := Tryz.func208.trans (congrArg some (by kernel_rfl))
  f308 := Tryz.func209.trans (congrArg some (by kernel_rfl))
  f309 := Tryz.func210.trans (congrArg some (by kernel_rfl))
  f310 := Tryz.func211.trans (congrArg some (by kernel_rfl))
  f329 := Tryz.func171.trans (congrArg some (by kernel_rfl))
  f330 := Tryz.func172.trans (congrArg some (by kernel_rfl))
  f333 := Tryz.func230.trans (congrArg some (by kernel_rfl))
  f334 := Tryz.func231.trans (congrArg some (by kernel_rfl))
  f335 := Tryz.func232.trans (congrArg some (by kernel_rfl))
  f336 := Tryz.func233.trans (congrArg some (by kernel_rfl))
  f344 := Tryz.func241.trans (congrArg some (by kernel_rfl))
  t0 := Tryz.underlying0
  a0 := Tryz.isAgg0
  z0 := Tryz.sizeOf0
  v0 := Tryz.zeroValue0
  t3 := Tryz.underlying3
  a3 := Tryz.isAgg3
  z3 := Tryz.sizeOf3
  v3 := Tryz.zeroValue3
  t4 := Tryz.underlying4
  a4 := Tryz.isAgg4
  z4 := Tryz.sizeOf4
  v4 := Tryz.zeroValue4
  t5 := Tryz.underlying5
  a5 := Tryz.isAgg5
  z5 := Tryz.sizeOf5
  v5 := Tryz.zeroValue5
  t9 := Tryz.underlying9
  a9 := Tryz.isAgg9
  z9 := Tryz.sizeOf9
  v9 := Tryz.zeroValue9
  t31 := Tryz.underlying33
  a31 := Tryz.isAgg33
  z31 := Tryz.sizeOf33
  v31 := Tryz.zeroValue33
  t46 := Tryz.underlying117
  a46 := Tryz.isAgg117
  z46 := Tryz.sizeOf117
  v46 := Tryz.zeroValue117
  t51 := Tryz.underlying155
  a51 := Tryz.isAgg155
  z51 := Tryz.sizeOf155
  v51 := Tryz.zeroValue155
  t53 := Tryz.underlying120
  a53 := Tryz.isAgg120
  z53 := Tryz.sizeOf120
  v53 := Tryz.zeroValue120
  t131 := Tryz.underlying90
  a131 := Tryz.isAgg90
  z131 := Tryz.sizeOf90
  v131 := Tryz.zeroValue90
  t182 := Tryz.underlying148
  a182 := Tryz.isAgg148
  z182 := Tryz.sizeOf148
  v182 := Tryz.zeroValue148
  t183 := Tryz.underlying149
  a183 := Tryz.isAgg149
  z183 := Tryz.sizeOf149
  v183 := Tryz.zeroValue149
  t218 := Tryz.underlying193
  a218 := Tryz.isAgg193
  z218 := Tryz.sizeOf193
  v218 := Tryz.zeroValue193
  t222 := Tryz.underlying197
  a222 := Tryz.isAgg197
  z222 := Tryz.sizeOf197
  v222 := Tryz.zeroValue197
  t228 := Tryz.underlying229
  a228 := Tryz.isAgg229
  z228 := Tryz.sizeOf229
  v228 := Tryz.zeroValue229
  t229 := Tryz.underlying230
  a229 := Tryz.isAgg230
  z229 := Tryz.sizeOf230
  v229 := Tryz.zeroValue230 }
open Go.Sort Go.RowKit in
theorem Tryz.slices_Sort_string (blk off cap : Nat) (ss : List (List UInt8)) (w : World) (hH : Holds encStr w blk off ss.toArray) (hblk : blk < w.heap.size) (hsz : ss.length < 4611686018427387904) :
    Calls Tryz.prog 107 #[.slice (some ⟨blk, off, none⟩) ss.length cap] w fun e w' =>
      e = .returned (.tuple #[]) ∧ ∃ n os, w' = grow (putRow encStr (Sort.ahead w n) blk off (ss.mergeSort fun x y => decide (x ≤ y)).toArray) os := Any.slices_Sort_string Tryz.lays190 blk off cap ss w hH hblk hsz
def Tryz.lays149_ren : Go.Shelf.Ren := ⟨fun | 149 => 80 | 222 => 113 | n => n, fun | 9 => 9 | 5 => 5 | 3 => 3 | 4 => 4 | n => n, fun | n => n⟩
theorem Tryz.lays149 : Go.Proofs.Lays.n149 Tryz.prog Tryz.lays149_ren := {
  mixed := by kernel_rfl
  f149 := Tryz.func80.trans (congrArg some (by kernel_rfl))
  f222 := Tryz.func113.trans (congrArg some (by kernel_rfl))
  t3 := Tryz.underlying3
  a3 := Tryz.isAgg3
  z3 := Tryz.sizeOf3
  v3 := Tryz.zeroValue3
  t4 := Tryz.underlying4
  a4 := Tryz.isAgg4
  z4 := Tryz.sizeOf4
  v4 := Tryz.zeroValue4
  t5 := Tryz.underlying5
  a5 := Tryz.isAgg5
  z5 := Tryz.sizeOf5
  v5 := Tryz.zeroValue5
  t9 := Tryz.underlying9
  a9 := Tryz.isAgg9
  z9 := Tryz.sizeOf9
  v9 := Tryz.zeroValue9 }
open Go.RowKit Go.Lib in
theorem Tryz.strings_LastIndexByte (s : ByteArray) (c : Int) (hs : s.size < 4611686018427387904) (w : World) :
    Calls Tryz.prog 80 #[.string s, .int .u8 c] w fun e w' => e = .returned (.int .i64 (Lib.lastIndexByte s c)) ∧ w' = w := Any.strings_LastIndexByte Tryz.lays149 s c hs w
def Tryz.lays99_ren : Go.Shelf.Ren := ⟨fun | 99 => 59 | 206 => 106 | n => n, fun | 9 => 9 | 4 => 4 | 3 => 3 | n => n, fun | n => n⟩
theorem Tryz.lays99 : Go.Proofs.Lays.n99 Tryz.prog Tryz.lays99_ren := {
  mixed := by kernel_rfl
  f99 := Tryz.func59.trans (congrArg some (by kernel_rfl))
  f206 := Tryz.func106.trans (congrArg some (by kernel_rfl))
  t3 := Tryz.underlying3
  a3 := Tryz.isAgg3
  z3 := Tryz.sizeOf3
  v3 := Tryz.zeroValue3
  t4 := Tryz.underlying4
  a4 := Tryz.isAgg4
  z4 := Tryz.sizeOf4
  v4 := Tryz.zeroValue4
  t9 := Tryz.underlying9
  a9 := Tryz.isAgg9
  z9 := Tryz.sizeOf9
  v9 := Tryz.zeroValue9 }
open Go.RowKit Go.Lib in
theorem Tryz.strings_HasPrefix (s p : ByteArray) (w : World) :
    Calls Tryz.prog 59 #[.string s, .string p] w fun e w' => e = .returned (.bool (Lib.hasPrefix s.data.toList p.data.toList)) ∧ w' = w := Any.strings_HasPrefix Tryz.lays99 s p w
def Tryz.lays100_ren : Go.Shelf.Ren := ⟨fun | 100 => 58 | 207 => 105 | n => n, fun | 9 => 9 | 4 => 4 | 3 => 3 | n => n, fun | n => n⟩
theorem Tryz.lays100 : Go.Proofs.Lays.n100 Tryz.prog Tryz.lays100_ren := {
  mixed := by kernel_rfl
  f100 := Tryz.func58.trans (congrArg some (by kernel_rfl))
  f207 := Tryz.func105.trans (congrArg some (by kernel_rfl))
  t3 := Tryz.underlying3
  a3 := Tryz.isAgg3
  z3 := Tryz.sizeOf3
  v3 := Tryz.zeroValue3
  t4 := Tryz.underlying4
  a4 := Tryz.isAgg4
  z4 := Tryz.sizeOf4
  v4 := Tryz.zeroValue4
  t9 := Tryz.underlying9
  a9 := Tryz.isAgg9
  z9 := Tryz.sizeOf9
  v9 := Tryz.zeroValue9 }
open Go.RowKit Go.Lib in
theorem Tryz.strings_HasSuffix (s p : ByteArray) (w : World) (hs : s.size ≤ 9223372036854775807) :
    Calls Tryz.prog 58 #[.string s, .string p] w fun e w' => e = .returned (.bool (Lib.hasSuffix s.data.toList p.data.toList)) ∧ w' = w := Any.strings_HasSuffix Tryz.lays100 s p w hs
def Tryz.lays110_ren : Go.Shelf.Ren := ⟨fun | 110 => 31 | 109 => 28 | n => n, fun | 31 => 33 | 9 => 9 | 4 => 4 | 3 => 3 | 0 => 0 | n => n, fun | n => n⟩
theorem Tryz.lays110 : Go.Proofs.Lays.n110 Tryz.prog Tryz.lays110_ren := {
  mixed := by kernel_rfl
  f109 := Tryz.func28.trans (congrArg some (by kernel_rfl))
  f110 := Tryz.func31.trans (congrArg some (by kernel_rfl))
  t0 := Tryz.underlying0
  a0 := Tryz.isAgg0
  z0 := Tryz.sizeOf0
  v0 := Tryz.zeroValue0
  t3 := Tryz.underlying3
  a3 := Tryz.isAgg3
  z3 := Tryz.sizeOf3
  v3 := Tryz.zeroValue3
  t4 := Tryz.underlying4
  a4 := Tryz.isAgg4
  z4 := Tryz.sizeOf4
  v4 := Tryz.zeroValue4
  t9 := Tryz.underlying9
  a9 := Tryz.isAgg9
  z9 := Tryz.sizeOf9
  v9 := Tryz.zeroValue9
  t31 := Tryz.underlying33
  a31 := Tryz.isAgg33
  z31 := Tryz.sizeOf33
  v31 := Tryz.zeroValue33 }
open Go.Lib in
theorem Tryz.slices_Contains_string (b off n c : Nat) (zs : List ByteArray) (x : ByteArray) (w : World) (hz : n ≤ zs.length) (hbig : n ≤ 9223372036854775807) (hc : ∀ j, j < zs.length → w.cell? ⟨b, off + j, none⟩ = some (.string (zs.getD j ByteArray.empty))) :
    Calls Tryz.prog 31 #[.slice (some ⟨b, off, none⟩) n c, .string x] w fun e w' => e = .returned (.bool (Lib.containsS (zs.take n) x)) ∧ w' = w := Any.slices_Contains_string Tryz.lays110 b off n c zs x w hz hbig hc
open Go.Lib in
theorem Tryz.slices_Contains_string_empty (a : Option Addr) (c : Nat) (x : ByteArray) (w : World) :
    Calls Tryz.prog 31 #[.slice a 0 c, .string x] w fun e w' => e = .returned (.bool false) ∧ w' = w := Any.slices_Contains_string_empty Tryz.lays110 a c x w
open Go.RowKit Go.Sort in
theorem Tryz.slices_Sort_string_none (p : Option Addr) (cap : Nat) (w : World) :
    Calls Tryz.prog 107 #[.slice p 0 cap] w fun e w' => e = .returned (.tuple #[]) ∧ w' = w := Any.slices_Sort_string_none Tryz.lays190 p cap w
end Go.Proofs

namespace Go.Proofs.YtddlohbhchjjhaaGreatDoor
open Go.RowKit Go.Sort

def bl (s : ByteArray) : List UInt8 := s.data.toList
def ub (l : List UInt8) : ByteArray := ⟨l.toArray⟩
theorem ub_bl (s : ByteArray) : ub (bl s) = s := by cases s; simp [ub, bl]
theorem bl_ub (l : List UInt8) : bl (ub l) = l := by simp [ub, bl]
theorem le_less : ∀ (a b : List UInt8), decide (a ≤ b) = !Op.bytesLess b a
  | [], b => by cases b <;> simp [Op.bytesLess]
  | a :: r, [] => by simp [Op.bytesLess]
  | a :: r, b :: s => by
    have ih := le_less r s
    rw [Bool.eq_iff_iff] at ih ⊢
    simp only [decide_eq_true_eq, Op.bytesLess, Bool.not_eq_true', Bool.or_eq_false_iff, Bool.and_eq_false_iff, decide_eq_false_iff_not, beq_eq_false_iff_ne, List.cons_le_cons_iff] at ih ⊢
    constructor
    · rintro (h | ⟨h, h'⟩)
      · exact ⟨fun h2 => absurd (UInt8.lt_trans h h2) (UInt8.lt_irrefl _), .inl fun e => by subst e; exact absurd h (UInt8.lt_irrefl _)⟩
      · subst h; exact ⟨UInt8.lt_irrefl _, .inr (ih.1 h')⟩
    · rintro ⟨h1, h2⟩
      by_cases e : a = b
      · subst e
        rcases h2 with h2 | h2
        · exact absurd rfl h2
        · exact .inr ⟨rfl, ih.2 h2⟩
      · left
        rw [UInt8.lt_iff_toNat_lt] at h1 ⊢
        have : a.toNat ≠ b.toNat := fun h => e (UInt8.toNat_inj.1 h)
        omega
def Srt (l : List ByteArray) : Prop := l.Pairwise (fun a b => less b a = false)
theorem Srt.asc {l : List ByteArray} (h : Srt l) (hn : l.Nodup) : Asc l := by
  unfold Srt at h; unfold Asc
  have := h.and hn
  refine this.imp ?_
  rintro a b ⟨h1, h2⟩
  cases h3 : less a b with
  | true => rfl
  | false => exact absurd (lessB_conn h3 h1) h2
def srtB (l : List ByteArray) : List ByteArray := ((l.map bl).mergeSort fun x y => decide (x ≤ y)).map ub
theorem srtB_perm (l : List ByteArray) : (srtB l).Perm l := by
  have h := (List.mergeSort_perm (l.map bl) fun x y => decide (x ≤ y)).map ub
  rw [List.map_map] at h
  have e : l.map (ub ∘ bl) = l := by
    conv => rhs; rw [← List.map_id l]
    exact List.map_congr_left fun x _ => ub_bl x
  rwa [e] at h
theorem srtB_srt (l : List ByteArray) : Srt (srtB l) := by
  unfold Srt srtB
  rw [List.pairwise_map]
  have h := List.pairwise_mergeSort (le := fun x y : List UInt8 => decide (x ≤ y)) (fun a b c h1 h2 => by simp only [decide_eq_true_eq] at *; exact List.le_trans h1 h2) (fun a b => by simp only [Bool.or_eq_true, decide_eq_true_eq]; exact List.le_total a b) (l.map bl)
  refine h.imp ?_
  intro a b h1
  rw [le_less] at h1
  show Op.bytesLess (bl (ub b)) (bl (ub a)) = false
  rw [bl_ub, bl_ub]
  simpa using h1
theorem srtB_len (l : List ByteArray) : (srtB l).length = l.length := (srtB_perm l).length_eq
theorem srtB_mem (l : List ByteArray) (x : ByteArray) : x ∈ srtB l ↔ x ∈ l := (srtB_perm l).mem_iff
theorem srtB_asc {l : List ByteArray} (h : l.Nodup) : Asc (srtB l) := (srtB_srt l).asc ((srtB_perm l).nodup_iff.2 h)
theorem strs_get (l : List ByteArray) (j : Nat) (x : ByteArray) (h : l[j]? = some x) : (strs l)[j]? = some (.string x) := by simp [strs, h]
theorem putCells_take (off n : Nat) (d : Array (List UInt8)) (cur : Array Value) (hd : d.size = n) (ho : off = 0) (hn : n ≤ cur.size) : (putCells encStr off d cur).toList.take n = d.toList.map encStr := by
  subst ho hd
  apply List.ext_getElem?
  intro k
  rw [List.getElem?_take]
  by_cases hk : k < d.size
  · have hk2 : k < cur.size := by omega
    rw [if_pos hk, List.getElem?_map]
    simp [putCells, hk, hk2]
  · rw [if_neg hk, List.getElem?_eq_none (by simp; omega)]
set_option maxHeartbeats 1000000 in
theorem sort_any (base n c : Nat) (A : Option Addr) (l : List ByteArray) (w : World) (h : w.ownsRow base 9 1 (.slice A n c) n (strs l)) (hn : n ≤ 1000000000) :
    Calls Tryz.prog 107 #[.slice A n c] w fun e w' => e = .returned (.tuple #[]) ∧ w'.ownsRow base 9 1 (.slice A n c) n (strs (srtB l)) ∧ w.grownBy w' (Value.slice A n c).ownBlock := by
  have hl : l.length = n := by have := h.1; rw [strs_len] at this; omega
  rcases h.2 with ⟨hv, h0⟩ | ⟨g, cap, cur, hv, h1, h2, h3, h4, h5, h6⟩
  · simp only [Value.slice.injEq] at hv
    obtain ⟨rfl, _, rfl⟩ := hv
    subst h0
    obtain rfl : l = [] := List.eq_nil_of_length_eq_zero hl
    refine (Tryz.slices_Sort_string_none _ _ _).mono ?_
    rintro e w' ⟨rfl, rfl⟩
    exact ⟨rfl, by simpa [srtB] using h, rfl, rfl, rfl, Nat.le_refl _, fun _ _ _ => rfl⟩
  · simp only [Value.slice.injEq] at hv
    obtain ⟨rfl, _, rfl⟩ := hv
    have hsz : n ≤ cur.size := by omega
    have hH : Holds encStr w g 0 (l.map bl).toArray := by
      intro j hj
      have hj' : j < l.length := by simpa using hj
      have hx : l[j]? = some l[j] := List.getElem?_eq_getElem hj'
      refine ⟨?_, by simp [World.frozen?, h2]⟩
      have h7 : (strs l)[j]? = some (.string l[j]) := strs_get l j _ hx
      rw [← h6, List.getElem?_take, if_pos (by omega)] at h7
      have e : encStr ((l.map bl).toArray[j]!) = .string l[j] := by
        show Value.string (ub _) = _
        simp [hj', ub_bl]
      rw [e]
      simp [World.cell?, h2]
      simpa using h7
    have hc := Tryz.slices_Sort_string g 0 c (l.map bl) w hH (Array.getElem?_eq_some_iff.1 h2).1 (by rw [List.length_map]; omega)
    rw [List.length_map, hl] at hc
    refine hc.mono ?_
    rintro e w' ⟨rfl, k, os, rfl⟩
    have hlt := (Array.getElem?_eq_some_iff.1 h2).1
    have hms : ((l.map bl).mergeSort fun x y => decide (x ≤ y)).toArray.size = n := by simp [hl]
    refine ⟨rfl, ⟨by rw [strs_len, srtB_len, hl]; omega, .inr ⟨g, c, putCells encStr 0 ((l.map bl).mergeSort fun x y => decide (x ≤ y)).toArray cur, rfl, h1, ?_, h3, h4, by simp [putCells]; omega, ?_⟩⟩, rfl, rfl, rfl, by simp, fun b hb hr => ?_⟩
    · simp only [grow, putRow, mapBlock, Sort.ahead]
      rw [Array.getElem?_append_left (by simpa using hlt), Array.getElem?_modify, if_pos rfl, h2]
      rfl
    · rw [Nat.mul_one, putCells_take 0 n _ cur hms rfl hsz]
      simp [strs, srtB, ub, Function.comp_def]
    · simp only [grow, putRow, mapBlock, Sort.ahead]
      rw [Array.getElem?_append_left (by simpa using hb), Array.getElem?_modify, if_neg (fun e => hr (by rw [e]; rfl))]
end Go.Proofs.YtddlohbhchjjhaaGreatDoor

namespace Go.Proofs.YtddlohbhchjjhaaGreatDoor
open Go.RowKit Go.Shelf
attribute [local go_sem] Oper.semAt_some

theorem size_len (s : ByteArray) : s.size = s.data.toList.length := (Array.length_toList).symm
theorem get_data (s : ByteArray) (k : Nat) (h : k < s.size) : s.data.toList[k]? = some s[k] := by
  rw [List.getElem?_eq_getElem (by rw [← size_len]; exact h)]; rfl
theorem extract_list (s : ByteArray) (k i : Nat) : (s.extract k i).data.toList = (s.data.toList.drop k).take (i - k) := by
  simp [ByteArray.data_extract]
def splitS : List UInt8 → List (List UInt8)
  | [] => [[]]
  | c :: r => if c = 47 then [] :: splitS r else match splitS r with
    | [] => [[c]]
    | h :: t => (c :: h) :: t
theorem splitS_ne (l : List UInt8) : splitS l ≠ [] := by
  cases l with
  | nil => simp [splitS]
  | cons c r => unfold splitS; split; simp; split <;> simp
theorem splitS_last (seg : List UInt8) (h : ∀ c ∈ seg, c ≠ 47) : splitS seg = [seg] := by
  induction seg with
  | nil => rfl
  | cons c r ih =>
    unfold splitS
    rw [if_neg (h c (by simp)), ih (fun d hd => h d (by simp [hd]))]
theorem splitS_seg (seg r : List UInt8) (h : ∀ c ∈ seg, c ≠ 47) : splitS (seg ++ 47 :: r) = seg :: splitS r := by
  induction seg with
  | nil => rw [List.nil_append, splitS, if_pos rfl]
  | cons c t ih =>
    rw [List.cons_append, splitS, if_neg (h c (by simp)), ih (fun d hd => h d (by simp [hd]))]

theorem splitS_len : ∀ (l p : List UInt8), p ∈ splitS l → p.length ≤ l.length
  | [], p, h => by simp [splitS] at h; simp [h]
  | c :: r, p, h => by
    unfold splitS at h
    split at h
    · rcases List.mem_cons.1 h with e | h
      · simp [e]
      · have := splitS_len r p h; simp; omega
    · split at h
      · simp at h; simp [h]
      · rename_i h2 t e
        rcases List.mem_cons.1 h with e2 | h3
        · have := splitS_len r h2 (by rw [e]; simp)
          rw [e2]; simp; omega
        · have := splitS_len r p (by rw [e]; simp [h3])
          simp; omega
def KeepS (lo : Nat) (A B : World) : Prop := ∀ k, lo ≤ k → k < lo + 3 → B.heap[k]? = A.heap[k]?
theorem keepS_t {lo : Nat} {A B C : World} (h : KeepS lo A B) (k : KeepS lo B C) : KeepS lo A C := fun i h1 h2 => (k i h1 h2).trans (h i h1 h2)
theorem keepS_put {lo m : Nat} (h : lo + 3 ≤ m) (W : World) (l : Nat) (o : Obj) (hl : m ≤ l) : KeepS lo W (W.putObj l o) := fun k _ h2 => World.putObj_heap_other (by omega)
def StS (lo : Nat) (A B : World) : Prop := ∃ v, B = A.setCell ⟨lo, 0, none⟩ (.string v)
theorem stS_others {lo : Nat} (A B : World) (h : StS lo A B) : KeepsOthers A B := by
  obtain ⟨v, rfl⟩ := h
  exact KeepsOthers.setCell _ _ _

def lenAt (lo : Nat) (w : World) : Nat := match w.cell? ⟨lo, 0, none⟩ with
  | some (.string s) => s.size
  | _ => 0
theorem lenAt_eq {lo : Nat} {w : World} {s : ByteArray} (h : w.heap[lo]? = some (.cells #[.string s] 9 (0, 0))) : lenAt lo w = s.size := by
  have := cell_of_one h
  simp [lenAt, this]

theorem split_at {l : List UInt8} {i : Nat} (h : Lib.indexByte l 47 = i) : splitS l = l.take i :: splitS (l.drop (i + 1)) := by
  obtain ⟨h1, h2⟩ := Lib.indexByte_some h
  have hi := (List.getElem?_eq_some_iff.1 h1).1
  have e : l = l.take i ++ 47 :: l.drop (i + 1) := by
    conv => lhs; rw [← List.take_append_drop i l]
    congr 1
    rw [List.drop_eq_getElem_cons hi]
    congr 1
    exact (List.getElem?_eq_some_iff.1 h1).2
  conv => lhs; rw [e]
  refine splitS_seg _ _ fun c hc e => ?_
  subst e
  obtain ⟨j, hj, hv⟩ := List.getElem_of_mem hc
  have hj' : j < i := by simp at hj; omega
  apply h2 j hj'
  rw [← hv, List.getElem_take]
  exact List.getElem?_eq_getElem _
theorem split_none {l : List UInt8} (h : Lib.indexByte l 47 = -1) : splitS l = [l] := by
  refine splitS_last _ fun c hc e => ?_
  subst e
  obtain ⟨j, hj, hv⟩ := List.getElem_of_mem hc
  exact Lib.indexByte_none h j (by rw [← hv]; exact List.getElem?_eq_getElem _)


set_option maxRecDepth 100000 in
set_option maxHeartbeats 1000000 in
theorem split1_st (n lo : Nat) (hn : 1 ≤ n) (s : ByteArray) (w : World) (hs : s.size ≤ 9223372036854775807) (hlo : lo + 3 ≤ w.heap.size)
    (h0 : w.heap[lo]? = some (.cells #[.string s] 9 (0, 0))) (h1 : w.heap[lo + 1]? = some (.cells #[.string ⟨#[47]⟩] 9 (0, 0))) (h2 : w.heap[lo + 2]? = some (.cells #[.int .i64 0] 3 (0, 0))) :
    SeqP Fence.wide n Tryz.prog 213 #[.pointer (some ⟨lo + 1, 0, none⟩), .pointer (some ⟨lo, 0, none⟩), .pointer (some ⟨lo + 2, 0, none⟩)] (fun x : ByteArray => #[.string x]) (KeepS lo) (StS lo)
      (fun pre => ∃ r, pre.map bl ++ r = splitS (bl s)) (fun xs => xs.map bl = splitS (bl s)) (fun pre => ∃ r, pre.map bl ++ r = splitS (bl s)) w := fun l J Jx W hW hJ hY hJ0 => by
  have g0 : W.heap[lo]? = some (.cells #[.string s] 9 (0, 0)) := (hW.block lo (by omega)).trans h0
  have g1 : W.heap[lo + 1]? = some (.cells #[.string ⟨#[47]⟩] 9 (0, 0)) := (hW.block (lo + 1) (by omega)).trans h1
  have g2 : W.heap[lo + 2]? = some (.cells #[.int .i64 0] 3 (0, 0)) := (hW.block (lo + 2) (by omega)).trans h2
  clear hW h0 h1 h2
  have c1 := cell_of_one g1
  have G0 := Lib.hid g0; have G1 := Lib.hid g1; have G2 := Lib.hid g2; have HJ := Lib.hid hJ; have HY := Lib.hid hY; have HJ0 := Lib.hid hJ0
  clear g0 g1 g2 hJ hY hJ0
  refine callsIn_of_wp Tryz.func213 rfl trivial ?_ rfl
  simp only [Tryz.ntmps213, List.size_toArray, List.length_cons, List.length_nil, Nat.reduceAdd, Nat.reduceSub, Array.replicate_succ, Array.replicate_zero, List.push_toArray, List.append_toArray, List.nil_append, List.cons_append]
  gi_wp2_with fail
  gi_loopw [7, 8] (fun _ _ wr => ∃ (pre : List ByteArray) (cur : ByteArray), cur.size ≤ 9223372036854775807 ∧ Hid (wr.heap[lo]? = some (.cells #[.string cur] 9 (0, 0))) ∧ Hid (wr.heap[lo + 1]? = some (.cells #[.string ⟨#[47]⟩] 9 (0, 0))) ∧ Hid (wr.heap[lo + 2]? = some (.cells #[.int .i64 0] 3 (0, 0))) ∧ Hid (pre.map bl ++ splitS (bl cur) = splitS (bl s)) ∧ J pre wr)
    (fun _ _ wr => lenAt lo wr)
  case atStart => exact ⟨[], s, hs, G0, G1, G2, rfl, HJ0.out⟩
  case round =>
    obtain ⟨pre, cur, hcs, k0, k1, k2, hsp, hj⟩ := hrel
    have d0 := cell_of_one k0.out; have d1 := cell_of_one k1.out; have d2 := cell_of_one k2.out
    have f0 := free_of_one k0.out
    have HJR := Lib.hid hj
    clear hj
    have hf86 : Fence.wide.fn 215 := trivial
    by_cases hi : Lib.indexByte cur.data.toList 47 = -1
    · have HI := Lib.hid hi
      have HE := Lib.hid (split_none hi)
      clear hi
      obtain ⟨fn, tmps, assign, body, hy, hR⟩ := HY.out pre cur wr ⟨[], by rw [List.map_append, ← hsp.out, List.append_nil]; show _ = _ ++ splitS cur.data.toList; rw [HE.out]; rfl⟩ HJR.out
      have HR := Lib.hid hR
      clear hR
      gi_wp2_with (gi_at_call 215; refine (callsIn_wide.2 (Tryz.strings_Index_one _ _ _)).mono ?_; rintro e w' ⟨rfl, rfl⟩; rw [HI.out])
      refine HR.out.mono ?_
      rintro e W3 (⟨rfl, hJ3, _⟩ | ⟨rfl, hJx3⟩)
      · gi_wp2
        go_end0
        exact ⟨⟨_, rfl⟩, .inl ⟨pre ++ [cur], by rw [List.map_append, ← hsp.out]; show _ = _ ++ splitS cur.data.toList; rw [HE.out]; rfl, hJ3⟩⟩
      · gi_wp2
        go_end0
        exact ⟨⟨_, rfl⟩, .inr ⟨pre ++ [cur], ⟨[], by rw [List.map_append, ← hsp.out, List.append_nil]; show _ = _ ++ splitS cur.data.toList; rw [HE.out]; rfl⟩, hJx3⟩⟩
    · obtain ⟨i, hi'⟩ : ∃ i : Nat, Lib.indexByte cur.data.toList 47 = i := ⟨(Lib.indexByte cur.data.toList 47).toNat, by have := Lib.indexByte_ge cur.data.toList 47; omega⟩
      have hil : i < cur.size := by
        rw [size_len]; exact (List.getElem?_eq_some_iff.1 (Lib.indexByte_some hi').1).1
      have HI := Lib.hid hi'
      have HE := Lib.hid (split_at hi')
      clear hi hi'
      obtain ⟨fn, tmps, assign, body, hy, hR⟩ := HY.out pre (cur.extract 0 i) wr ⟨splitS (cur.data.toList.drop (i + 1)), by
          rw [List.map_append, ← hsp.out, List.append_assoc]; show _ = _ ++ splitS cur.data.toList; rw [HE.out]; simp [bl]⟩ HJR.out
      have HR := Lib.hid hR
      clear hR
      gi_wp2_with (gi_at_call 215; refine (callsIn_wide.2 (Tryz.strings_Index_one _ _ _)).mono ?_; rintro e w' ⟨rfl, rfl⟩; rw [HI.out])
      refine HR.out.mono ?_
      rintro e W3 (⟨rfl, hJ3, hK3⟩ | ⟨rfl, hJx3⟩)
      · have m0 := (hK3 lo (by omega) (by omega)).trans k0.out
        have m1 := (hK3 (lo + 1) (by omega) (by omega)).trans k1.out
        have m2 := (hK3 (lo + 2) (by omega) (by omega)).trans k2.out
        have e0 := cell_of_one m0; have e1 := cell_of_one m1; have q0 := free_of_one m0
        have M0 := Lib.hid m0; have M1 := Lib.hid m1; have M2 := Lib.hid m2
        have HJ3 := Lib.hid hJ3
        clear m0 m1 m2 hJ3 hK3 d0 d1 d2 f0
        gi_wp2
        go_roundw
        case rel =>
          refine ⟨pre ++ [cur.extract 0 i], cur.extract (i + 1) cur.size, by rw [ByteArray.size_extract]; omega, one_setCell M0.out, (Below.heap_setCell _ _ _ _ (by simp)).trans M1.out, (Below.heap_setCell _ _ _ _ (by simp)).trans M2.out, ?_, HJ.out _ _ _ HJ3.out ⟨_, rfl⟩⟩
          show _ = _
          rw [← hsp.out, List.map_append, List.append_assoc]
          show _ = _ ++ splitS cur.data.toList
          rw [HE.out]
          have e2 : bl (cur.extract (i + 1) cur.size) = cur.data.toList.drop (i + 1) := by
            unfold bl; rw [extract_list, List.take_of_length_le (by rw [List.length_drop, ← size_len]; omega)]
          rw [e2]
          simp [bl]
        case measure =>
          rw [lenAt_eq (one_setCell M0.out), lenAt_eq k0.out, ByteArray.size_extract]
          omega
      · gi_wp2
        refine bodyPost_ret (results_none rfl _ _ _) rfl ?_
        exact ⟨⟨_, rfl⟩, .inr ⟨pre ++ [cur.extract 0 i], ⟨splitS (cur.data.toList.drop (i + 1)), by
          rw [List.map_append, ← hsp.out, List.append_assoc]; show _ = _ ++ splitS cur.data.toList; rw [HE.out]; simp [bl]⟩, hJx3⟩⟩

set_option maxHeartbeats 400000 in
theorem splitSeq_any (s : ByteArray) (w : World) :
    Calls Tryz.prog 111 #[.string s, .string ⟨#[47]⟩] w fun e w' => e = .returned (.func (.func 213) #[] #[.pointer (some ⟨w.heap.size + 1, 0, none⟩), .pointer (some ⟨w.heap.size, 0, none⟩), .pointer (some ⟨w.heap.size + 2, 0, none⟩)]) ∧
      w' = ((w.alloc (.cells #[.string s] 9)).alloc (.cells #[.string ⟨#[47]⟩] 9)).alloc (.cells #[.int .i64 0] 3) := by
  go_enter Tryz.func111, Tryz.ntmps111
  go_wp2
  go_ret
  exact ⟨rfl, rfl⟩

end Go.Proofs.YtddlohbhchjjhaaGreatDoor

namespace Go.Proofs.YtddlohbhchjjhaaGreatDoor
open Go.RowKit Go.Shelf
attribute [local go_sem] Oper.semAt_some

def ltrI (c : Int) : Bool := decide (97 ≤ c) && decide (c ≤ 122)
def dgtI (c : Int) : Bool := decide (48 ≤ c) && decide (c ≤ 57)
def ltrB (c : UInt8) : Bool := ltrI (c.toNat : Int)
def dgtB (c : UInt8) : Bool := dgtI (c.toNat : Int)
def okC (k : Nat) (c : UInt8) : Bool := ltrB c || (decide (k ≠ 0) && dgtB c)
def OkTo (l : List UInt8) (k : Nat) : Prop := ∀ j c, j < k → l[j]? = some c → okC j c = true
def wordL : List UInt8 → Bool
  | [] => false
  | c :: r => ltrB c && r.all (fun x => ltrB x || dgtB x)
theorem wordL_iff (l : List UInt8) : wordL l = true ↔ l ≠ [] ∧ OkTo l l.length := by
  cases l with
  | nil => simp [wordL]
  | cons c r =>
    simp only [wordL, Bool.and_eq_true, List.all_eq_true, ne_eq, reduceCtorEq, not_false_eq_true, true_and]
    constructor
    · rintro ⟨h1, h2⟩ j x hj hx
      cases j with
      | zero => simp at hx; subst hx; simp [okC, h1]
      | succ j =>
        have := h2 x (List.mem_of_getElem? (by simpa using hx))
        simpa [okC] using this
    · intro h
      refine ⟨by have := h 0 c (by simp) rfl; simpa [okC] using this, fun x hx => ?_⟩
      obtain ⟨j, hj, e⟩ := List.getElem_of_mem hx
      have := h (j + 1) x (by simp; omega) (by simp [hj, e])
      simpa [okC] using this
theorem OkTo.step {l : List UInt8} {k : Nat} {c : UInt8} (h : OkTo l k) (hc : l[k]? = some c) (ho : okC k c = true) : OkTo l (k + 1) := fun j x hj hx => by
  by_cases e : j = k
  · subst e; rw [hc] at hx; cases hx; exact ho
  · exact h j x (by omega) hx
theorem word_bad {l : List UInt8} {k : Nat} {c : UInt8} (hc : l[k]? = some c) (ho : okC k c = false) : wordL l = false := by
  cases h : wordL l with
  | false => rfl
  | true =>
    have := ((wordL_iff l).1 h).2 k c (List.getElem?_eq_some_iff.1 hc).1 hc
    rw [ho] at this; cases this
def word24 (s : ByteArray) : Bool := decide (s.size ≤ 24) && wordL (bl s)
def partL (l : List UInt8) : Bool := decide (l.length ≤ 20) && wordL l
def labL (l : List UInt8) : Bool := decide (l.length ≤ 90) && (splitS l).all partL
def labB (s : ByteArray) : Bool := labL (bl s)

set_option maxHeartbeats 400000 in
theorem letter_any (c : Int) (w : World) : Calls Tryz.prog 161 #[.int .i32 c] w fun e w' => e = .returned (.bool (ltrI c)) ∧ w = w' := by
  go_enter Tryz.func161, Tryz.ntmps161
  go_wp2
  all_goals (go_ret; refine ⟨ret_bool ?_, rfl⟩; rw [Bool.eq_iff_iff]; simp [ltrI]; try omega)
set_option maxHeartbeats 400000 in
theorem digit_any (c : Int) (w : World) : Calls Tryz.prog 162 #[.int .i32 c] w fun e w' => e = .returned (.bool (dgtI c)) ∧ w = w' := by
  go_enter Tryz.func162, Tryz.ntmps162
  go_wp2
  all_goals (go_ret; refine ⟨ret_bool ?_, rfl⟩; rw [Bool.eq_iff_iff]; simp [dgtI]; try omega)
theorem high_bad {c : Int} (h : 128 ≤ c) : ltrI c = false ∧ dgtI c = false := by
  constructor
  · simp [ltrI]; intro; omega
  · simp [dgtI]; intro; omega

set_option maxRecDepth 100000 in
set_option maxHeartbeats 2000000 in
theorem word_any (s : ByteArray) (w : World) (hs : s.size ≤ maxLen) :
    Calls Tryz.prog 112 #[.string s] w fun e w' => e = .returned (.bool (word24 s)) ∧ Below w.heap.size w w' := by
  unfold maxLen at hs
  have HL := Lib.hid (size_len s)
  by_cases c0 : s.toList = []
  · have hv : Hid (word24 s = false) := by
      show _ = _
      rw [ByteArray.toList_eq] at c0
      unfold word24 bl; rw [c0]; simp [wordL]
    have c0' : (s.toList == ([] : List UInt8)) = true := by simp [c0]
    clear c0
    go_enter Tryz.func112, Tryz.ntmps112
    go_wp2
    go_ret
    exact ⟨ret_bool hv.out.symm, Below.refl _ _⟩
  have c0' : (s.toList == ([] : List UInt8)) = false := by simp [c0]
  by_cases c1 : 24 < (s.size : Int)
  · have hv : Hid (word24 s = false) := by
      show _ = _
      unfold word24; rw [decide_eq_false (by omega), Bool.false_and]
    clear c0
    go_enter Tryz.func112, Tryz.ntmps112
    go_wp2
    go_ret
    exact ⟨ret_bool hv.out.symm, Below.refl _ _⟩
  have HV : Hid (word24 s = wordL (bl s)) := by
    show _ = _
    unfold word24; rw [decide_eq_true (by omega), Bool.true_and]
  have HN0 : Hid (bl s ≠ []) := by
    rw [ByteArray.toList_eq] at c0; exact c0
  clear c0
  go_enter Tryz.func112, Tryz.ntmps112
  go_wp2
  go_loopw [] (fun w' => ∃ pos : Nat, pos ≤ s.size ∧ w' = w.iter s pos ∧ Hid (OkTo (bl s) pos)) (fun w' => s.size - w'.iterPos w.heap.size)
  case atStart => exact ⟨0, Nat.zero_le _, rfl, fun j c h => absurd h (by omega)⟩
  case round =>
    obtain ⟨pos, hpos, rfl, hO⟩ := hrel
    by_cases hp : pos < s.size
    · have hg := Lib.hid (get_data s pos hp)
      by_cases ha : s[pos].toNat < 128
      · have hnx : ∀ ty, (Instr.next (.pointer (some ⟨w.heap.size, 0, none⟩)) true ty).run Tryz.prog (w.iter s pos) = _ := fun ty => run_next_ascii w s pos ty hp ha
        cases hl : ltrI (s[pos].toNat : Int) with
        | true =>
          have HO2 : Hid (OkTo (bl s) (pos + 1)) := hO.out.step hg.out (by unfold okC ltrB; rw [hl]; rfl)
          have HLI := Lib.hid hl
          clear hl
          go_wp2_with (go_at_call 161; refine (letter_any _ _).mono ?_; rintro e w' ⟨rfl, rfl⟩; rw [HLI.out])
          go_roundw
          case rel => exact ⟨pos + 1, hp, rfl, HO2.out⟩
          case measure => simp; omega
        | false =>
          have HLI := Lib.hid hl
          by_cases h0 : pos = 0
          · subst h0
            have hF : Hid (word24 s = false) := by
              show _ = _
              rw [HV.out]; exact word_bad hg.out (by unfold okC ltrB; rw [hl]; rfl)
            clear hl
            go_wp2_with (go_at_call 161; refine (letter_any _ _).mono ?_; rintro e w' ⟨rfl, rfl⟩; rw [HLI.out])
            go_ret
            exact ⟨ret_bool hF.out.symm, (Below.refl _ w).alloc (Nat.le_refl _) _⟩
          · have h0' : ((pos : Int) == 0) = false := by rw [beq_eq_false_iff_ne]; omega
            cases hd : dgtI (s[pos].toNat : Int) with
            | true =>
              have HO2 : Hid (OkTo (bl s) (pos + 1)) := hO.out.step hg.out (by unfold okC ltrB dgtB; rw [hl, hd]; simp [h0])
              have HDI := Lib.hid hd
              clear hl hd h0
              go_wp2_with (first
                | (go_at_call 161; refine (letter_any _ _).mono ?_; rintro e w' ⟨rfl, rfl⟩; rw [HLI.out])
                | (go_at_call 162; refine (digit_any _ _).mono ?_; rintro e w' ⟨rfl, rfl⟩; rw [HDI.out]))
              go_roundw
              case rel => exact ⟨pos + 1, hp, rfl, HO2.out⟩
              case measure => simp; omega
            | false =>
              have hF : Hid (word24 s = false) := by
                show _ = _
                rw [HV.out]; exact word_bad hg.out (by unfold okC ltrB dgtB; rw [hl, hd]; simp)
              have HDI := Lib.hid hd
              clear hl hd h0
              go_wp2_with (first
                | (go_at_call 161; refine (letter_any _ _).mono ?_; rintro e w' ⟨rfl, rfl⟩; rw [HLI.out])
                | (go_at_call 162; refine (digit_any _ _).mono ?_; rintro e w' ⟨rfl, rfl⟩; rw [HDI.out]))
              go_ret
              exact ⟨ret_bool hF.out.symm, (Below.refl _ w).alloc (Nat.le_refl _) _⟩
      · have hnx : ∀ ty, (Instr.next (.pointer (some ⟨w.heap.size, 0, none⟩)) true ty).run Tryz.prog (w.iter s pos) = _ := fun ty => run_next_any w s pos ty hp
        have hdec := (decode_high s pos hp (by omega)).1
        have hhi := high_bad (c := ((Utf8.decode s pos).1 : Int)) (by omega)
        have hbb := high_bad (c := (s[pos].toNat : Int)) (by omega)
        have hF : Hid (word24 s = false) := by
          show _ = _
          rw [HV.out]; exact word_bad hg.out (by unfold okC ltrB dgtB; rw [hbb.1, hbb.2]; simp)
        have HLI := Lib.hid hhi.1; have HDI := Lib.hid hhi.2
        clear hhi hbb hdec
        by_cases h0 : pos = 0
        · subst h0
          go_wp2_with (go_at_call 161; refine (letter_any _ _).mono ?_; rintro e w' ⟨rfl, rfl⟩; rw [HLI.out])
          go_ret
          exact ⟨ret_bool hF.out.symm, (Below.refl _ w).alloc (Nat.le_refl _) _⟩
        · have h0' : ((pos : Int) == 0) = false := by rw [beq_eq_false_iff_ne]; omega
          clear h0
          go_wp2_with (first
            | (go_at_call 161; refine (letter_any _ _).mono ?_; rintro e w' ⟨rfl, rfl⟩; rw [HLI.out])
            | (go_at_call 162; refine (digit_any _ _).mono ?_; rintro e w' ⟨rfl, rfl⟩; rw [HDI.out]))
          go_ret
          exact ⟨ret_bool hF.out.symm, (Below.refl _ w).alloc (Nat.le_refl _) _⟩
    · have hnx : ∀ ty, (Instr.next (.pointer (some ⟨w.heap.size, 0, none⟩)) true ty).run Tryz.prog (w.iter s pos) = _ := fun ty => run_next_end w s pos ty hp
      have hF : Hid (word24 s = true) := by
        show _ = _
        rw [HV.out, wordL_iff]
        refine ⟨HN0.out, ?_⟩
        have h1 := hO.out
        have : pos = (bl s).length := by have := HL.out; unfold bl; omega
        rwa [this] at h1
      go_wp2
      go_ret
      exact ⟨ret_bool hF.out.symm, (Below.refl _ w).alloc (Nat.le_refl _) _⟩
theorem one_grown' {w w' : World} {b : Nat} {v : Value} {t : TypeId} {row : Option Nat} (h : w.heap[b]? = some (.cells #[v] t (0, 0))) (hg : w.grownBy w' row) (hr : some b ≠ row) : w'.heap[b]? = some (.cells #[v] t (0, 0)) :=
  (hg.block b (Array.getElem?_eq_some_iff.1 h).1 hr).trans h
theorem resultsLab {w : World} {a : Array Value} {r : Nat} {x : Bool} (ha : a[2]?.getD undef = .pointer (some ⟨r, 0, none⟩)) (h : w.heap[r]? = some (.cells #[.bool x] 4 (0, 0))) :
    (results Tryz.f79 a).run Tryz.prog w = .ok (.bool x) w := by
  have hc := cell_of_one h
  simp [results, Tryz.results79, ha, go_sem, hc]
def partB (s : ByteArray) : Bool := partL (bl s)
theorem part_long (s : ByteArray) (h : 20 < (s.size : Int)) : partB s = false := by
  have := size_len s
  unfold partB partL bl; rw [decide_eq_false (by omega), Bool.false_and]
theorem part_short (s : ByteArray) (h : ¬ 20 < (s.size : Int)) : partB s = word24 s := by
  have := size_len s
  unfold partB partL word24; rw [decide_eq_true (by unfold bl; omega), decide_eq_true (by omega)]

set_option maxRecDepth 100000 in
set_option maxHeartbeats 1000000 in
theorem label_any (s : ByteArray) (w : World) (hs : s.size ≤ maxLen) :
    Calls Tryz.prog 79 #[.string s] w fun e w' => e = .returned (.bool (labB s)) ∧ Below w.heap.size w w' := by
  refine (callsIn_wide (n := 6)).1 ?_
  unfold maxLen at hs
  have HL := Lib.hid (size_len s)
  have hf65 : Fence.wide.fn 111 := trivial
  have hf66 : Fence.wide.fn 112 := trivial
  refine callsIn_of_wp_marks Tryz.func79 rfl trivial ?_ rfl
  simp only [Tryz.ntmps79, List.size_toArray, List.length_cons, List.length_nil, Nat.reduceAdd, Nat.reduceSub, Array.replicate_succ, Array.replicate_zero, List.push_toArray, List.append_toArray, List.nil_append, List.cons_append]
  by_cases c1 : 90 < (s.size : Int)
  · have hv : Hid (labB s = false) := by
      show _ = _
      have := HL.out
      unfold labB labL bl; rw [decide_eq_false (by omega), Bool.false_and]
    gi_wp2_with fail
    refine ⟨_, resultsLab rfl (World.alloc_heap_new w _), ?_⟩
    exact ⟨ret_bool hv.out.symm, (Below.refl _ _).alloc (Nat.le_refl _) _⟩
  have c1' : (s.size : Int) ≤ 90 := by omega
  have HN : Hid (labB s = (splitS (bl s)).all partL) := by
    show _ = _
    have := HL.out
    unfold labB labL; rw [decide_eq_true (by unfold bl; omega), Bool.true_and]
  gi_wp2_with (gi_at_call 111; refine (callsIn_wide.2 (splitSeq_any _ _)).mono ?_; rintro e w' ⟨rfl, rfl⟩)
  obtain ⟨W0, hW0⟩ : ∃ W0, (((w.alloc (.cells #[.bool false] 4)).alloc (.cells #[.string s] 9)).alloc (.cells #[.string ⟨#[47]⟩] 9)).alloc (.cells #[.int .i64 0] 3) = W0 := ⟨_, rfl⟩
  have hz : W0.heap.size = w.heap.size + 4 := by rw [← hW0]; simp
  have g0 : W0.heap[w.heap.size]? = some (.cells #[.bool false] 4 (0, 0)) := by
    rw [← hW0]
    exact (Below.heap_alloc _ _ _ (by simp; omega)).trans ((Below.heap_alloc _ _ _ (by simp; omega)).trans ((Below.heap_alloc _ _ _ (by simp)).trans (World.alloc_heap_new w _)))
  have g1 : W0.heap[w.heap.size + 1]? = some (.cells #[.string s] 9 (0, 0)) := by
    rw [← hW0]
    refine (Below.heap_alloc _ _ _ (by simp)).trans ((Below.heap_alloc _ _ _ (by simp)).trans ?_)
    have := World.alloc_heap_new (w.alloc (.cells #[.bool false] 4)) (.cells #[.string s] 9); rwa [World.size_alloc] at this
  have g2 : W0.heap[w.heap.size + 1 + 1]? = some (.cells #[.string ⟨#[47]⟩] 9 (0, 0)) := by
    rw [← hW0]
    refine (Below.heap_alloc _ _ _ (by simp)).trans ?_
    have := World.alloc_heap_new ((w.alloc (.cells #[.bool false] 4)).alloc (.cells #[.string s] 9)) (.cells #[.string ⟨#[47]⟩] 9); rwa [World.size_alloc, World.size_alloc] at this
  have g3 : W0.heap[w.heap.size + 1 + 2]? = some (.cells #[.int .i64 0] 3 (0, 0)) := by
    rw [← hW0]
    have := World.alloc_heap_new (((w.alloc (.cells #[.bool false] 4)).alloc (.cells #[.string s] 9)).alloc (.cells #[.string ⟨#[47]⟩] 9)) (.cells #[.int .i64 0] 3); rwa [World.size_alloc, World.size_alloc, World.size_alloc] at this
  have hb0 : Below w.heap.size w W0 := by
    rw [← hW0]
    exact ((((Below.refl _ w).alloc (Nat.le_refl _) _).alloc (by simp) _).alloc (by simp; omega) _).alloc (by simp; omega) _
  rw [hW0]
  refine wpIn_rangeP (F := Fence.wide) (n := 6) rfl (by omega) (gf := 213) (lb := #[.pointer (some ⟨w.heap.size + 1 + 1, 0, none⟩), .pointer (some ⟨w.heap.size + 1, 0, none⟩), .pointer (some ⟨w.heap.size + 1 + 2, 0, none⟩)]) rfl trivial (enters_of Tryz.func213 (by kernel_rfl) rfl)
    (split1_st 5 (w.heap.size + 1) (by omega) s W0 (by omega) (by omega) g1 g2 g3) keepS_t (fun W l o hl => keepS_put (m := w.heap.size + 4) (by omega) W l o (by omega)) (stS_others) (Below.refl _ _) (fun _ => rfl)
    (fun pre W => W.heap[w.heap.size]? = some (.cells #[.bool false] 4 (0, 0)) ∧ Hid (∀ x ∈ pre, partB x = true) ∧ Below w.heap.size w W ∧ w.heap.size + 4 ≤ W.heap.size)
    (fun c pre W => c = .ret ∧ W.heap[w.heap.size]? = some (.cells #[.bool false] 4 (0, 0)) ∧ Hid (∃ x ∈ pre, partB x = false) ∧ Below w.heap.size w W)
    ?hI ?hIx ?hIS ⟨g0, by simp [Hid], hb0, by omega⟩ ?a1 ?assign ?body ?done ?stop
  case assign =>
    intro l x W K hK
    have HKK := Lib.hid hK
    clear hK
    gi_wp2
    exact HKK.out
  case hI =>
    rintro pre A B row ⟨h1, h2, h3, h4⟩ hg hr
    refine ⟨one_grown' h1 hg (fun e => ?_), h2, h3.grown hg h3.size (fun k e => ?_), Nat.le_trans h4 hg.size⟩
    · have := (hr _ e.symm).1; omega
    · have := (hr _ e).1; omega
  case hIx =>
    rintro c pre A B row ⟨h0, h1, h2, h3⟩ hg hr
    refine ⟨h0, one_grown' h1 hg (fun e => ?_), h2, h3.grown hg h3.size (fun k e => ?_)⟩
    · have := (hr _ e.symm).1; omega
    · have := (hr _ e).1; omega
  case hIS =>
    rintro pre A B ⟨h1, h2, h3, h4⟩ ⟨v, rfl⟩
    exact ⟨(Below.heap_setCell _ _ _ _ (by simp)).trans h1, h2, h3.setCell (p := ⟨w.heap.size + 1, 0, none⟩) (by simp) _, by simpa [World.setCell] using h4⟩
  case body =>
    rintro l pre x W ⟨r, hr⟩ ⟨h1, h2, h3, h4⟩
    have hxs : x.size ≤ maxLen := by
      have hm : bl x ∈ splitS (bl s) := by rw [← hr]; simp
      have h5 := splitS_len (bl s) _ hm
      have h6 := size_len x
      have h7 := HL.out
      unfold bl at h5; unfold maxLen; omega
    have c0 := cell_of_one h1
    have f0 := free_of_one h1
    have H1 := Lib.hid h1; have H3 := Lib.hid h3
    clear h1 h3 g0 g1 g2 g3 hb0 hW0 hr
    by_cases hx20 : 20 < (x.size : Int)
    · have HP := Lib.hid (part_long x hx20)
      gi_wp2
      exact ⟨KeepsOthers.setCell _ _ _, rfl, one_setCell H1.out, ⟨x, by simp, HP.out⟩, H3.out.setCell (p := ⟨w.heap.size, 0, none⟩) (Nat.le_refl _) _⟩
    · have HPS := Lib.hid (part_short x hx20)
      cases hv : word24 x with
      | true =>
        have HV := Lib.hid hv
        clear hv
        gi_wp2_with (gi_at_call 112; refine (CallsIn.inRound l (callsIn_wide.2 (word_any x _ hxs))).mono ?_; rintro e w' ⟨rfl, hb⟩; rw [HV.out]; refine halt_ ?_)
        refine unhalt ?_
        have HB := Lib.hid hb
        clear hb
        gi_wp2
        refine ⟨⟨HB.out.size, fun k o hk _ => (HB.out.block k (Array.getElem?_eq_some_iff.1 hk).1).trans hk⟩, fun k h5 h6 => HB.out.block k (by omega), (HB.out.block _ (by omega)).trans H1.out, ?_, H3.out.trans (HB.out.mono (by omega)), Nat.le_trans h4 HB.out.size⟩
        intro y hy
        rcases List.mem_append.1 hy with h | h
        · exact h2.out y h
        · simp at h; subst h; rw [HPS.out]; exact HV.out
      | false =>
        have HV := Lib.hid hv
        clear hv
        gi_wp2_with (gi_at_call 112; refine (CallsIn.inRound l (callsIn_wide.2 (word_any x _ hxs))).mono ?_; rintro e w' ⟨rfl, hb⟩; rw [HV.out]; refine halt_ ?_)
        refine unhalt ?_
        have H1' := (hb.block w.heap.size (by omega)).trans H1.out
        have c2 := cell_of_one H1'
        have f2 := free_of_one H1'
        have HB := Lib.hid hb; have HH1 := Lib.hid H1'
        clear hb H1' c0 f0
        gi_wp2
        refine ⟨(KeepsOthers.trans ⟨HB.out.size, fun k o hk _ => (HB.out.block k (Array.getElem?_eq_some_iff.1 hk).1).trans hk⟩ (KeepsOthers.setCell _ _ _)), rfl, one_setCell HH1.out, ⟨x, by simp, by rw [HPS.out]; exact HV.out⟩, (H3.out.trans (HB.out.mono (by omega))).setCell (p := ⟨w.heap.size, 0, none⟩) (Nat.le_refl _) _⟩
  case done =>
    rintro D xs W hD hS ⟨h1, h2, h3, h4⟩ hK
    have c0 := cell_of_one h1
    have f0 := free_of_one h1
    have H1 := Lib.hid h1; have H3 := Lib.hid h3; have HK := Lib.hid hK; have HS := Lib.hid hS
    clear h1 h3 hK hS
    gi_wp2
    have hK2 := (KeepsOthers.setCell W ⟨w.heap.size, 0, none⟩ (.bool true)).same D _ HK.out rfl
    refine ⟨by simp, .inl ⟨_, _, rfl, run_takeDeferred hK2, ?_⟩⟩
    refine ⟨_, resultsLab rfl ((World.putObj_heap_other (by omega)).trans (one_setCell H1.out)), ret_bool ?_, ?_⟩
    · rw [HN.out]
      symm
      rw [List.all_eq_true]
      intro y hy
      have hy' : y ∈ xs.map bl := by rw [HS.out]; exact hy
      obtain ⟨x, hx, rfl⟩ := List.mem_map.1 hy'
      exact h2.out x hx
    · exact (H3.out.setCell (p := ⟨w.heap.size, 0, none⟩) (Nat.le_refl _) _).grown (grownBy_putObj' _ _ _) ((H3.out.setCell (p := ⟨w.heap.size, 0, none⟩) (Nat.le_refl _) _).size) (fun k e => by cases e; omega)
  case stop =>
    rintro D c pre W hD hS ⟨rfl, h1, h2, h3⟩ hK
    have H1 := Lib.hid h1; have H3 := Lib.hid h3; have HK := Lib.hid hK; have HS := Lib.hid hS
    clear h1 h3 hK hS
    gi_wp2
    refine ⟨by simp, .inl ⟨_, _, rfl, run_takeDeferred HK.out, ?_⟩⟩
    refine ⟨_, resultsLab rfl ((World.putObj_heap_other (by omega)).trans H1.out), ret_bool ?_, ?_⟩
    · rw [HN.out]
      symm
      rw [List.all_eq_false]
      obtain ⟨x, hx, hxv⟩ := h2.out
      obtain ⟨r, hr⟩ := HS.out
      refine ⟨bl x, ?_, by simpa [partB] using hxv⟩
      rw [← hr]
      exact List.mem_append.2 (.inl (List.mem_map.2 ⟨x, hx, rfl⟩))
    · exact H3.out.grown (grownBy_putObj' _ _ _) H3.out.size (fun k e => by cases e; omega)
end Go.Proofs.YtddlohbhchjjhaaGreatDoor

namespace Go.Proofs.YtddlohbhchjjhaaGreatDoor
open Go.RowKit Go.Shelf

theorem infoStr' : (Tryz.prog.info? 9).map (fun i => (i.zero, i.size, i.bytes)) = some (some (.string ⟨#[]⟩), 1, 16) := by kernel_rfl
def depsW : ByteArray := ⟨#[100, 101, 112, 115]⟩
def visibleW : ByteArray := ⟨#[118, 105, 115, 105, 98, 108, 101]⟩
def resB (s : ByteArray) : Bool := decide (s = depsW) || decide (s = visibleW)
def frlB (s : ByteArray) : Bool := labB s && !resB s
def starW : ByteArray := ⟨#[42]⟩
def viewB (s : ByteArray) : Bool := if Lib.hasSuffix (bl s) [47] then labL (Lib.trimSuffix (bl s) [47]) else decide (s = starW) || frlB s
def memB (l : List ByteArray) (x : ByteArray) : Bool := l.any (fun y => decide (y = x))
theorem memB_iff (l : List ByteArray) (x : ByteArray) : memB l x = true ↔ x ∈ l := by simp [memB, List.any_eq_true]
def elE (ok : ByteArray → Bool) : List ByteArray → List ByteArray → Int
  | _, [] => 0
  | seen, x :: r => if ok x then (if memB seen x then 7 else elE ok (seen ++ [x]) r) else 6
def visE (vis : List ByteArray) : Int := if 20 < vis.length then 4 else elE viewB [] vis
theorem str_dec (a b : ByteArray) : (a.toList == b.toList) = decide (a = b) := by
  by_cases e : a = b
  · subst e; simp
  · rw [decide_eq_false e, beq_eq_false_iff_ne]
    intro h
    rw [ByteArray.toList_eq, ByteArray.toList_eq] at h
    exact e (data_inj h)

theorem str_lit (s : ByteArray) (l : List UInt8) : (s.toList == l) = decide (s = ⟨l.toArray⟩) := by
  rw [← str_dec]
  congr 1
  rw [ByteArray.toList_eq]
set_option maxHeartbeats 400000 in
theorem contains_any (A : Option Addr) (n k c B : Nat) (l : List ByteArray) (x : ByteArray) (w : World) (h : Sl w B 1 A n (strs l)) (hk : k ≤ n) (hn : n ≤ 9223372036854775807) :
    Calls Tryz.prog 31 #[.slice A k c, .string x] w fun e w' => e = .returned (.bool (memB (l.take k) x)) ∧ w = w' := by
  have hl : l.length = n := by have := h.1; rw [strs_len] at this; omega
  rcases Nat.eq_zero_or_pos k with h0 | h0
  · subst h0
    refine (Tryz.slices_Contains_string_empty A c x w).mono ?_
    rintro e w' ⟨rfl, rfl⟩
    exact ⟨rfl, rfl⟩
  · obtain ⟨b, off, rfl, _, hc⟩ := h.2 (by omega)
    refine (Tryz.slices_Contains_string b off k c l x w (by omega) (by omega) (fun j hj => ?_)).mono ?_
    · rw [hc j (.string l[j]) (by simp [strs, hj])]
      simp [hj]
    · rintro e w' ⟨rfl, rfl⟩
      refine ⟨ret_bool ?_, rfl⟩
      rw [Bool.eq_iff_iff, Lib.containsS_iff, memB_iff]
set_option maxHeartbeats 400000 in
theorem reserved_any (s : ByteArray) (w : World) : Calls Tryz.prog 216 #[.string s] w fun e w' => e = .returned (.bool (resB s)) ∧ w = w' := by
  have h1 : (s.toList == [100, 101, 112, 115]) = decide (s = depsW) := str_lit s _; have h2 : (s.toList == [118, 105, 115, 105, 98, 108, 101]) = decide (s = visibleW) := str_lit s _
  by_cases e1 : s = depsW
  · have hv : Hid (resB s = true) := by show _ = _; unfold resB; rw [decide_eq_true e1]; rfl
    rw [decide_eq_true e1] at h1
    have h1' : (s.toList == [100, 101, 112, 115]) = true := h1
    clear h1 h2 e1
    go_enter Tryz.func216, Tryz.ntmps216
    go_wp2
    go_ret
    exact ⟨ret_bool hv.out.symm, rfl⟩
  · rw [decide_eq_false e1] at h1
    have h1' : (s.toList == [100, 101, 112, 115]) = false := h1
    by_cases e2 : s = visibleW
    · have hv : Hid (resB s = true) := by show _ = _; unfold resB; rw [decide_eq_true e2]; simp
      rw [decide_eq_true e2] at h2
      have h2' : (s.toList == [118, 105, 115, 105, 98, 108, 101]) = true := h2
      clear h1 h2 e1 e2
      go_enter Tryz.func216, Tryz.ntmps216
      go_wp2
      go_ret
      exact ⟨ret_bool hv.out.symm, rfl⟩
    · have hv : Hid (resB s = false) := by show _ = _; unfold resB; rw [decide_eq_false e1, decide_eq_false e2]; rfl
      rw [decide_eq_false e2] at h2
      have h2' : (s.toList == [118, 105, 115, 105, 98, 108, 101]) = false := h2
      clear h1 h2 e1 e2
      go_enter Tryz.func216, Tryz.ntmps216
      go_wp2
      go_ret
      exact ⟨ret_bool hv.out.symm, rfl⟩
set_option maxHeartbeats 400000 in
theorem freeLabel_any (s : ByteArray) (w : World) (hs : s.size ≤ maxLen) : Calls Tryz.prog 165 #[.string s] w fun e w' => e = .returned (.bool (frlB s)) ∧ Below w.heap.size w w' := by
  go_enter Tryz.func165, Tryz.ntmps165
  cases hl : labB s with
  | false =>
    have hv : Hid (frlB s = false) := by show _ = _; unfold frlB; rw [hl]; rfl
    have HL := Lib.hid hl
    clear hl
    go_wp2_with (go_at_call 79; refine (label_any _ _ hs).mono ?_; rintro e w1 ⟨rfl, hb⟩; rw [HL.out])
    go_ret
    exact ⟨ret_bool hv.out.symm, hb⟩
  | true =>
    have hv : Hid (frlB s = !resB s) := by show _ = _; unfold frlB; rw [hl]; rfl
    have HL := Lib.hid hl
    clear hl
    go_wp2_with (first
      | (go_at_call 79; refine (label_any _ _ hs).mono ?_; rintro e w1 ⟨rfl, hb⟩; rw [HL.out])
      | (go_at_call 216; refine (reserved_any _ _).mono ?_; rintro e w2 ⟨rfl, rfl⟩))
    go_ret
    exact ⟨ret_bool hv.out.symm, hb⟩
set_option maxHeartbeats 1000000 in
theorem viewer_any (s : ByteArray) (w : World) (hs : s.size ≤ maxLen) : Calls Tryz.prog 166 #[.string s] w fun e w' => e = .returned (.bool (viewB s)) ∧ Below w.heap.size w w' := by
  go_enter Tryz.func166, Tryz.ntmps166
  have hs' : s.size ≤ 9223372036854775807 := by unfold maxLen at hs; exact hs
  cases hc : Lib.hasSuffix s.data.toList [47] with
  | true =>
    have hv : Hid (viewB s = labB ⟨(Lib.trimSuffix s.data.toList [47]).toArray⟩) := by
      show _ = _
      unfold viewB bl; rw [if_pos hc]; unfold labB bl; simp
    have HC := Lib.hid hc
    have hz : (⟨(Lib.trimSuffix s.data.toList [47]).toArray⟩ : ByteArray).size ≤ maxLen := by
      have h1 := Lib.trimSuffix_le s.data.toList [47]
      have h2 := size_len s
      show (Lib.trimSuffix s.data.toList [47]).toArray.size ≤ _
      simp; omega
    clear hc
    go_wp2_with (first
      | (go_at_call 217; refine (Tryz.strings_CutSuffix _ _ _ hs').mono ?_; rintro e w1 ⟨rfl, rfl⟩; simp only [HC.out])
      | (go_at_call 79; refine (label_any _ _ hz).mono ?_; rintro e w1 ⟨rfl, hb⟩))
    go_ret
    exact ⟨ret_bool hv.out.symm, hb⟩
  | false =>
    have HC := Lib.hid hc
    have h1 : (s.toList == [42]) = decide (s = starW) := str_lit s _
    by_cases e1 : s = starW
    · have hv : Hid (viewB s = true) := by show _ = _; unfold viewB bl; rw [if_neg (by rw [hc]; simp), decide_eq_true e1]; rfl
      rw [decide_eq_true e1] at h1
      have h1' : (s.toList == [42]) = true := h1
      clear hc h1 e1
      go_wp2_with (go_at_call 217; refine (Tryz.strings_CutSuffix _ _ _ hs').mono ?_; rintro e w1 ⟨rfl, rfl⟩; simp only [HC.out])
      go_ret
      exact ⟨ret_bool hv.out.symm, Below.refl _ _⟩
    · have hv : Hid (viewB s = frlB s) := by show _ = _; unfold viewB bl; rw [if_neg (by rw [hc]; simp), decide_eq_false e1, Bool.false_or]
      rw [decide_eq_false e1] at h1
      have h1' : (s.toList == [42]) = false := h1
      clear hc h1 e1
      go_wp2_with (first
        | (go_at_call 217; refine (Tryz.strings_CutSuffix _ _ _ hs').mono ?_; rintro e w1 ⟨rfl, rfl⟩; simp only [HC.out])
        | (go_at_call 165; refine (freeLabel_any _ _ hs).mono ?_; rintro e w1 ⟨rfl, hb⟩))
      go_ret
      exact ⟨ret_bool hv.out.symm, hb⟩
set_option maxHeartbeats 1000000 in
theorem checkNone_any (A : Option Addr) (c : Nat) (f : Value) (w : World) : Calls Tryz.prog 164 #[.slice A 0 c, f] w fun e w' => e = .returned (.int .i64 0) ∧ w = w' := by
  go_enter Tryz.func164, Tryz.ntmps164
  go_wp2
  go_loop [9] (fun i => i = .int .i64 0) (fun _ => 0)
  case atStart => rfl
  case round =>
    subst hrel
    go_wp2
    go_ret
    exact ⟨rfl, rfl⟩
theorem elE_take {ok : ByteArray → Bool} {l : List ByteArray} {k : Nat} {x : ByteArray} (h : l[k]? = some x) : elE ok (l.take k) (l.drop k) = if ok x then (if memB (l.take k) x then 7 else elE ok (l.take (k + 1)) (l.drop (k + 1))) else 6 := by
  have hk := (List.getElem?_eq_some_iff.1 h).1
  rw [List.drop_eq_getElem_cons hk, (List.getElem?_eq_some_iff.1 h).2]
  simp only [elE]
  rw [take_snoc h]
set_option maxRecDepth 100000 in
set_option maxHeartbeats 2000000 in
theorem checkView_any (A : Option Addr) (n c B : Nat) (l : List ByteArray) (w : World) (h : Sl w B 1 A n (strs l)) (hB : B ≤ w.heap.size) (hn : n ≤ c) (hc : c ≤ maxLen) (hls : ∀ x ∈ l, x.size ≤ maxLen) :
    Calls Tryz.prog 164 #[.slice A n c, .func (.func 166) #[] #[]] w fun e w' => e = .returned (.int .i64 (elE viewB [] l)) ∧ Below w.heap.size w w' := by
  have hnm : n ≤ 9223372036854775807 := by unfold maxLen at hc; omega
  have H := Lib.hid h; have HLS := Lib.hid hls
  have HLL : Hid (l.length = n) := by have := h.1; rw [strs_len] at this; show _ = _; omega
  clear h hls
  go_enter Tryz.func164, Tryz.ntmps164
  go_wp2
  go_loopw [9] (fun i wr => ∃ k : Nat, k ≤ n ∧ i = .int .i64 k ∧ Hid (elE viewB [] l = elE viewB (l.take k) (l.drop k)) ∧ Hid (Below w.heap.size w wr)) (fun i _ => n - (intOf i).toNat)
  case atStart => exact ⟨0, Nat.zero_le _, rfl, rfl, Below.refl _ _⟩
  case round =>
    obtain ⟨k, hk, rfl, hE, hBel⟩ := hrel
    by_cases hlt : k < n
    · obtain ⟨b, off, x, rfl, hb, hx, y0⟩ := (H.out.below hBel.out hB).str_at hlt
      have hxs := HLS.out x (List.mem_of_getElem? hx)
      have HT := Lib.hid (elE_take (ok := viewB) hx)
      have hlz : (k : Int) < (n : Int) := by omega
      clear hx
      cases hv : viewB x with
      | false =>
        have hF : Hid (elE viewB [] l = 6) := by show _ = _; rw [hE.out, HT.out, hv]; rfl
        have HV := Lib.hid hv
        clear hv
        go_wp2_with (go_at_call 166; refine (viewer_any _ _ hxs).mono ?_; rintro e w1 ⟨rfl, hb1⟩; rw [HV.out])
        go_ret
        exact ⟨ret_int hF.out.symm, hBel.out.trans (hb1.mono hBel.out.size)⟩
      | true =>
        have HV := Lib.hid hv
        have HT2 : Hid (elE viewB (l.take k) (l.drop k) = if memB (l.take k) x then 7 else elE viewB (l.take (k + 1)) (l.drop (k + 1))) := by show _ = _; rw [HT.out, hv]; rfl
        clear hv HT
        go_wp2_with (go_at_call 166; refine (viewer_any _ _ hxs).mono ?_; rintro e w1 ⟨rfl, hb1⟩; rw [HV.out]; refine halt_ ?_)
        refine unhalt ?_
        have HB1 : Hid (Below w.heap.size w w1) := hBel.out.trans (hb1.mono hBel.out.size)
        clear hb1 hBel y0
        have hsl : ∀ w' : World, (Instr.sliceAt 33 (.slice (some ⟨b, off, none⟩) n c) none (some (.int .i64 k)) none).run Tryz.prog w' = .ok (.slice (some ⟨b, off, none⟩) k c) w' := fun w' => by
          obtain ⟨i0, hi0, _⟩ := info_parts infoStr'
          exact run_slice_to 33 i0 Tryz.underlying33 hi0 _ n c k (by omega) w'
        have HSL := Lib.hid (contains_any (some ⟨b, off, none⟩) n k c B l x w1 (H.out.below HB1.out hB) hk hnm)
        cases hm : memB (l.take k) x with
        | true =>
          have hF : Hid (elE viewB [] l = 7) := by show _ = _; rw [hE.out, HT2.out, hm]; rfl
          rw [hm] at HSL
          clear hm
          go_wp2_with (go_at_call 31; refine HSL.out.mono ?_; rintro e w2 ⟨rfl, rfl⟩)
          go_ret
          exact ⟨ret_int hF.out.symm, HB1.out⟩
        | false =>
          have hF : Hid (elE viewB [] l = elE viewB (l.take (k + 1)) (l.drop (k + 1))) := by show _ = _; rw [hE.out, HT2.out, hm]; rfl
          rw [hm] at HSL
          clear hm
          go_wp2_with (go_at_call 31; refine HSL.out.mono ?_; rintro e w2 ⟨rfl, rfl⟩)
          go_roundw
          case rel => exact ⟨k + 1, hlt, by go_num, hF.out, HB1.out⟩
          case measure => simp [intOf]; omega
    · have hlz : ¬ (k : Int) < (n : Int) := by omega
      have hF : Hid (elE viewB [] l = 0) := by
        show _ = _
        rw [hE.out, List.drop_of_length_le (by rw [HLL.out]; omega)]; rfl
      go_wp2
      go_ret
      exact ⟨ret_int hF.out.symm, hBel.out⟩
end Go.Proofs.YtddlohbhchjjhaaGreatDoor

namespace Go.Proofs.YtddlohbhchjjhaaGreatDoor
open Go.RowKit

abbrev Fl := ByteArray × ByteArray
def flC (f : Fl) : List Value := [.string f.1, .string f.2]
theorem flC_len (f : Fl) : (flC f).length = 2 := rfl
theorem below_drewN {B : Nat} {w w' : World} (h : Below B w w') : ∀ q, Below B w (w'.drewN q)
  | 0 => h
  | q + 1 => (below_drewN h q).drew
theorem Sl.fl {w : World} {B n k : Nat} {A : Option Addr} {fs : List Fl} (h : Sl w B 2 A n (flat flC fs)) (hk : k < n) :
    ∃ b off f, A = some ⟨b, off, none⟩ ∧ b < B ∧ fs[k]? = some f ∧ w.cell? ⟨b, off + k * 2, none⟩ = some (.string f.1) ∧ w.cell? ⟨b, off + k * 2 + 1, none⟩ = some (.string f.2) := by
  obtain ⟨b, off, x, e, hb, hx, hc⟩ := h.at_ flC_len (by omega) hk
  exact ⟨b, off, x, e, hb, hx, hc 0 _ rfl, hc 1 _ rfl⟩
end Go.Proofs.YtddlohbhchjjhaaGreatDoor
