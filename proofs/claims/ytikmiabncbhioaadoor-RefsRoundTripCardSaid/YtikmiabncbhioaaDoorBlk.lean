/-
  A block that is known whole.
-/
import Derived.Test.YtikmiabncbhioaaDoorBase
namespace Go.Proofs.YtikmiabncbhioaaDoor
open Go.RowKit

/-- Block b of w holds just the cells cs of type t; none is frozen. -/
def Bk (w : World) (b : Nat) (t : TypeId) (cs : Array Value) : Prop := w.heap[b]? = some (.cells cs t (0, 0))
section
variable {w w' : World} {b : Nat} {t : TypeId} {cs : Array Value}
theorem Bk.lt (h : Bk w b t cs) : b < w.heap.size := (Array.getElem?_eq_some_iff.1 h).1
theorem Bk.cell (h : Bk w b t cs) (i : Nat) : w.cell? ⟨b, i, none⟩ = cs[i]? := by
  unfold Bk at h; simp [World.cell?, h]
theorem Bk.free (h : Bk w b t cs) (i : Nat) : w.frozen? ⟨b, i, none⟩ = false := by
  unfold Bk at h; simp [World.frozen?, h]
theorem Bk.new (w : World) (t : TypeId) (cs : Array Value) : Bk (w.alloc (.cells cs t)) w.heap.size t cs := heap_alloc_new w _
theorem Bk.alloc (h : Bk w b t cs) (o : Obj) : Bk (w.alloc o) b t cs := (Below.heap_alloc w o b h.lt).trans h
theorem Bk.below {B : Nat} (h : Bk w b t cs) (hb : Below B w w') (hB : b < B) : Bk w' b t cs := (hb.block b hB).trans h
theorem Bk.grown {row : Option Nat} (h : Bk w b t cs) (hg : w.grownBy w' row) (hr : some b ≠ row) : Bk w' b t cs := (hg.block b h.lt hr).trans h
theorem Bk.far (h : Bk w b t cs) {p : Addr} (hp : b ≠ p.block) (u : Value) : Bk (w.setCell p u) b t cs := (Below.heap_setCell w p u b hp).trans h
theorem Bk.drew (h : Bk w b t cs) : Bk w.drew b t cs := h
theorem Bk.drewN (h : Bk w b t cs) (k : Nat) : Bk (w.drewN k) b t cs := h
theorem Bk.set (h : Bk w b t cs) (i : Nat) (u : Value) : Bk (w.setCell ⟨b, i, none⟩ u) b t (cs.setIfInBounds i u) := by
  unfold Bk at h ⊢
  simp [World.setCell, Array.getElem?_modify, h]
theorem Bk.set2 {x y : Value} (h : Bk w b t #[x, y]) (x' y' : Value) : Bk ((w.setCell ⟨b, 0, none⟩ x').setCell ⟨b, 1, none⟩ y') b t #[x', y'] := by
  have := (h.set 0 x').set 1 y'
  simpa using this
end
/-- two boxes behind a new world -/
theorem below_set2 {B b : Nat} {w w' : World} (h : Below B w w') (hb : B ≤ b) (x y : Value) : Below B w ((w'.setCell ⟨b, 0, none⟩ x).setCell ⟨b, 1, none⟩ y) :=
  (h.setCell (p := ⟨b, 0, none⟩) hb x).setCell (p := ⟨b, 1, none⟩) hb y
theorem Sl.setCell {w : World} {B size n : Nat} {A : Option Addr} {xs : List Value} (h : Sl w B size A n xs) {p : Addr} (hp : B ≤ p.block) (u : Value) : Sl (w.setCell p u) B size A n xs :=
  h.keep fun q hq => World.cell?_of_block (w := w) (Below.heap_setCell w p u q.block (by omega))
def notSlice : Value → Bool
  | .slice _ _ _ => false
  | _ => true
/-- What holds strings and numbers does not lie in a box of two slices: a store into that box leaves it as it is. -/
theorem Sl.box2 {w : World} {B size n b : Nat} {t : TypeId} {A : Option Addr} {xs : List Value} {a0 a1 : Option Addr} {l0 l1 k0 k1 : Nat} (h : Sl w B size A n xs) (h0 : 0 < size) (hx : ∀ u ∈ xs, notSlice u = true)
    (hk : Bk w b t #[.slice a0 l0 k0, .slice a1 l1 k1]) (x y : Value) : Sl ((w.setCell ⟨b, 0, none⟩ x).setCell ⟨b, 1, none⟩ y) B size A n xs := by
  refine ⟨h.1, fun hn => ?_⟩
  obtain ⟨b', off, rfl, hb', hc⟩ := h.2 hn
  have hlen : 0 < xs.length := by rw [h.1]; exact Nat.mul_pos hn h0
  have hne : b' ≠ b := by
    rintro rfl
    have h1 := hc 0 xs[0] (List.getElem?_eq_getElem hlen)
    rw [hk.cell, Nat.add_zero] at h1
    have h2 := hx xs[0] (List.getElem_mem hlen)
    match off, h1 with
    | 0, h1 => simp at h1; rw [← h1] at h2; cases h2
    | 1, h1 => simp at h1; rw [← h1] at h2; cases h2
    | o + 2, h1 => simp at h1
  refine ⟨b', off, rfl, hb', fun j u hu => ?_⟩
  rw [← hc j u hu]
  exact World.cell?_of_block ((Below.heap_setCell _ _ _ b' hne).trans (Below.heap_setCell _ _ _ b' hne))
end Go.Proofs.YtikmiabncbhioaaDoor
