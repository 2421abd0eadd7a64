/-
  Words for memory, over any program: a slice value that reads as a list of cells below a block; lists of elements laid out as cells; how these facts are carried from world to world. Plain lemmas, no program in sight.
-/
import Derived.WalkKit
import Derived.WalkSpells
import Derived.WalkLawsBesides
import Derived.Lib.Hide
namespace Go.Proofs.YtikmiabncbhioaaDoor
open Go.RowKit

theorem ret_bool {a b : Bool} (h : a = b) : Ending.returned (.bool a) = .returned (.bool b) := by rw [h]
theorem ret_int {k : IntKind} {a b : Int} (h : a = b) : Ending.returned (.int k a) = .returned (.int k b) := by rw [h]

/-- The slice value `.slice A n c` holds, in w and in a block below B, the cells xs, `size` cells an element. -/
def Sl (w : World) (B size : Nat) (A : Option Addr) (n : Nat) (xs : List Value) : Prop :=
  xs.length = n * size ∧ (0 < n → ∃ b off, A = some ⟨b, off, none⟩ ∧ b < B ∧ ∀ j u, xs[j]? = some u → w.cell? ⟨b, off + j, none⟩ = some u)

section
variable {w w' : World} {B B' size n : Nat} {A : Option Addr} {xs : List Value}
theorem Sl.nil (w : World) (B size : Nat) (A : Option Addr) : Sl w B size A 0 [] := ⟨by simp, fun h => absurd h (by omega)⟩
theorem Sl.keep (h : Sl w B size A n xs) (hk : ∀ p : Addr, p.block < B → w'.cell? p = w.cell? p) : Sl w' B size A n xs :=
  ⟨h.1, fun hn => by
    obtain ⟨b, off, e, hb, hc⟩ := h.2 hn
    exact ⟨b, off, e, hb, fun j u hu => (hk ⟨b, off + j, none⟩ hb).trans (hc j u hu)⟩⟩
theorem Sl.more (h : Sl w B size A n xs) (hB : B ≤ B') : Sl w B' size A n xs :=
  ⟨h.1, fun hn => by
    obtain ⟨b, off, e, hb, hc⟩ := h.2 hn
    exact ⟨b, off, e, by omega, hc⟩⟩
theorem Sl.below (h : Sl w B size A n xs) (hb : Below B' w w') (hB : B ≤ B') : Sl w' B size A n xs := h.keep fun _ hp => hb.cell (by omega)
theorem Sl.alloc (h : Sl w B size A n xs) (hB : B ≤ w.heap.size) (o : Obj) : Sl (w.alloc o) B size A n xs :=
  h.keep fun p hp => World.cell?_of_block (w := w) (Below.heap_alloc w o p.block (by omega))
theorem Sl.drew (h : Sl w B size A n xs) : Sl w.drew B size A n xs := h
theorem Sl.drewN (h : Sl w B size A n xs) (k : Nat) : Sl (w.drewN k) B size A n xs := h
theorem Sl.grown (h : Sl w B size A n xs) {row : Option Nat} (hg : w.grownBy w' row) (hB : B ≤ w.heap.size) (hr : ∀ g, row = some g → B ≤ g) : Sl w' B size A n xs :=
  h.keep fun p hp => World.cell?_of_block (hg.block p.block (by omega) (fun e => by have := hr _ e.symm; omega))
theorem Sl.of_own {base : Nat} {e : TypeId} {c : Nat} (h : w.ownsRow base e size (.slice A n c) n xs) : Sl w w.heap.size size A n xs := by
  refine ⟨h.1, fun hn => ?_⟩
  rcases h.2 with ⟨hv, h0⟩ | ⟨g, cap, cur, hv, _, hh, _, _, _, hcur⟩
  · omega
  · injection hv with hA
    subst hA
    refine ⟨g, 0, rfl, (Array.getElem?_eq_some_iff.1 hh).1, fun j u hu => ?_⟩
    have := h.cells (g := g) rfl j u hu
    rwa [Addr.add_lit] at this
end

/-- Elements laid out as cells, one after another. -/
def flat {α : Type} (enc : α → List Value) (xs : List α) : List Value := xs.flatMap enc

section
variable {α : Type} {enc : α → List Value} {s : Nat}
theorem flat_len (hs : ∀ x, (enc x).length = s) (xs : List α) : (flat enc xs).length = xs.length * s := by
  induction xs with
  | nil => simp [flat]
  | cons x xs ih => simp only [flat, List.flatMap_cons, List.length_append, List.length_cons] at ih ⊢; rw [ih, hs, Nat.add_mul]; omega
theorem flat_append (xs ys : List α) : flat enc (xs ++ ys) = flat enc xs ++ flat enc ys := by simp [flat]
theorem flat_get (hs : ∀ x, (enc x).length = s) (xs : List α) (k j : Nat) (x : α) (h : xs[k]? = some x) (hj : j < s) : (flat enc xs)[k * s + j]? = (enc x)[j]? := by
  induction xs generalizing k with
  | nil => simp at h
  | cons v us ih =>
    cases k with
    | zero =>
      simp only [List.getElem?_cons_zero, Option.some.injEq] at h; subst h
      simp only [flat, List.flatMap_cons, Nat.zero_mul, Nat.zero_add]
      rw [List.getElem?_append_left (by rw [hs]; exact hj)]
    | succ k =>
      simp only [List.getElem?_cons_succ] at h
      rw [← ih k h]
      simp only [flat, List.flatMap_cons]
      rw [List.getElem?_append_right (by rw [hs, Nat.succ_mul]; omega), hs]
      congr 1
      rw [Nat.succ_mul]; omega
theorem flat_take (hs : ∀ x, (enc x).length = s) (xs : List α) (k : Nat) : flat enc (xs.take k) = (flat enc xs).take (k * s) := by
  induction xs generalizing k with
  | nil => simp [flat]
  | cons v us ih =>
    cases k with
    | zero => simp [flat]
    | succ k =>
      have := ih k
      simp only [flat, List.take_succ_cons, List.flatMap_cons] at this ⊢
      rw [this, List.take_append, hs, List.take_of_length_le (l := enc v) (by rw [hs, Nat.succ_mul]; omega), Nat.succ_mul, Nat.add_sub_cancel]
theorem flat_drop (hs : ∀ x, (enc x).length = s) (xs : List α) (k : Nat) : flat enc (xs.drop k) = (flat enc xs).drop (k * s) := by
  induction xs generalizing k with
  | nil => simp [flat]
  | cons v us ih =>
    cases k with
    | zero => simp [flat]
    | succ k =>
      have := ih k
      simp only [flat, List.drop_succ_cons, List.flatMap_cons] at this ⊢
      rw [this, List.drop_append, hs, List.drop_of_length_le (l := enc v) (by rw [hs, Nat.succ_mul]; omega), List.nil_append, Nat.succ_mul, Nat.add_sub_cancel]
variable {w : World} {B n : Nat} {A : Option Addr} {xs : List α}
theorem Sl.len (hs : ∀ x, (enc x).length = s) (h0 : 0 < s) (h : Sl w B s A n (flat enc xs)) : xs.length = n := by
  have := h.1; rw [flat_len hs] at this; exact Nat.eq_of_mul_eq_mul_right h0 this
theorem Sl.at_ {k : Nat} (hs : ∀ x, (enc x).length = s) (h0 : 0 < s) (h : Sl w B s A n (flat enc xs)) (hk : k < n) :
    ∃ b off x, A = some ⟨b, off, none⟩ ∧ b < B ∧ xs[k]? = some x ∧ ∀ j v, (enc x)[j]? = some v → w.cell? ⟨b, off + k * s + j, none⟩ = some v := by
  obtain ⟨b, off, rfl, hb, hc⟩ := h.2 (by omega)
  have hl := h.len hs h0
  have hu : xs[k]? = some xs[k] := List.getElem?_eq_getElem (by omega)
  refine ⟨b, off, xs[k], rfl, hb, hu, fun j v hv => ?_⟩
  have hj : j < s := by
    have := (List.getElem?_eq_some_iff.1 hv).1
    rwa [hs] at this
  rw [Nat.add_assoc]
  exact hc _ v ((flat_get hs xs k j _ hu hj).trans hv)
/-- a slice of a slice, from the front. -/
theorem Sl.take_ {k : Nat} (hs : ∀ x, (enc x).length = s) (h0 : 0 < s) (h : Sl w B s A n (flat enc xs)) (hk : k ≤ n) : Sl w B s A k (flat enc (xs.take k)) := by
  have hl := h.len hs h0
  refine ⟨by rw [flat_len hs, List.length_take]; congr 1; omega, fun hk0 => ?_⟩
  obtain ⟨b, off, e, hb, hc⟩ := h.2 (by omega)
  refine ⟨b, off, e, hb, fun j u hu => hc j u ?_⟩
  rw [flat_take hs] at hu
  rw [List.getElem?_take] at hu
  split at hu
  · exact hu
  · cases hu
end

theorem take_snoc {α : Type} {l : List α} {k : Nat} {x : α} (h : l[k]? = some x) : l.take (k + 1) = l.take k ++ [x] := by
  have hk := (List.getElem?_eq_some_iff.1 h).1
  rw [List.take_succ_eq_append_getElem hk]
  congr 2
  exact (List.getElem?_eq_some_iff.1 h).2

end Go.Proofs.YtikmiabncbhioaaDoor
