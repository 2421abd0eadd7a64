/-
  The arguments that come in: refs, updates, slices of them, read off the form's own reading.
-/
import Derived.Test.YtikmiabncbhioaaDoorSpec
import Derived.ProofKit
import Derived.OpenShut
import Derived.Deep.Slices
import Derived.Lib.SmallJoins
namespace Go.Proofs.YtikmiabncbhioaaDoor
open Go.ChangeShapes Go.WideShapes Go.ChangeAt Go.RowKit Go.Joins Go.Deep

theorem cells28 : Tryd.prog.cellsOf 28 = 2 := by kernel_rfl
theorem cells30 : Tryd.prog.cellsOf 30 = 5 := by kernel_rfl
theorem cells56 : Tryd.prog.cellsOf 56 = 3 := by kernel_rfl
theorem cells25 : Tryd.prog.cellsOf 25 = 2 := by kernel_rfl
theorem cells9 : Tryd.prog.cellsOf 9 = 1 := by kernel_rfl

theorem list_of {α : Type} {p : Nat → α → Prop} : ∀ (n : Nat), (∀ i, i < n → ∃ x, p i x) → ∃ xs : List α, xs.length = n ∧ ∀ i x, xs[i]? = some x → p i x
  | 0, _ => ⟨[], rfl, fun i x h => by simp at h⟩
  | n + 1, h => by
    obtain ⟨xs, hl, hp⟩ := list_of n (fun i hi => h i (by omega))
    obtain ⟨y, hy⟩ := h n (by omega)
    refine ⟨xs ++ [y], by simp [hl], fun i x hx => ?_⟩
    rcases Nat.lt_or_ge i xs.length with hi | hi
    · rw [List.getElem?_append_left hi] at hx; exact hp i x hx
    · rw [List.getElem?_append_right hi] at hx
      have : i - xs.length = 0 := by
        rcases Nat.eq_zero_or_pos (i - xs.length) with h0 | h0
        · exact h0
        · rw [List.getElem?_eq_none (by simp; omega)] at hx; cases hx
      rw [this] at hx
      simp at hx
      subst hx
      have : i = n := by omega
      rw [this]; exact hy

theorem len2 {α : Type} {l : List α} (h : l.length = 2) : ∃ a b, l = [a, b] := by
  match l, h with
  | [a, b], _ => exact ⟨a, b, rfl⟩
theorem len3 {α : Type} {l : List α} (h : l.length = 3) : ∃ a b c, l = [a, b, c] := by
  match l, h with
  | [a, b, c], _ => exact ⟨a, b, c, rfl⟩
theorem len5 {α : Type} {l : List α} (h : l.length = 5) : ∃ a b c d e, l = [a, b, c, d, e] := by
  match l, h with
  | [a, b, c, d, e], _ => exact ⟨a, b, c, d, e, rfl⟩

section
variable {H : Type} {enc : TypeId × Value → H} {P : Program} {w : World} {base : Nat} {spare : Nat → Bool} {held : Bool} {fuel : Nat} {cs : List Value} {x : DataW H × List MemPlace}
theorem trod_digP {t e : TypeId} (ht : P.underlying t = some (.array 2 e)) (he : P.underlying e = some (.int .u64)) (hC : P.cellsOf t = 2) (hc : P.cellsOf e = 1)
    (h : DataW.trod enc P w base spare held fuel t cs = some x) : ∃ a b, cs = [.int .u64 a, .int .u64 b] := by
  obtain ⟨xs, m, _, _, hlen, hxl, hf⟩ := DataW.trod_array ht h
  rw [hC] at hlen
  obtain ⟨c0, c1, rfl⟩ := len2 hlen
  obtain ⟨y0, y1, rfl⟩ := len2 hxl
  have h0 := hf 0 (by omega)
  have h1 := hf 1 (by omega)
  rw [hc] at h0 h1
  simp at h0 h1
  obtain ⟨a, ha, _⟩ := DataW.trod_int he h0
  obtain ⟨b, hb, _⟩ := DataW.trod_int he h1
  simp at ha hb
  exact ⟨a, b, by rw [ha, hb]⟩
theorem trod_rfP {t s d e : TypeId} {f0 f1 : Field} (ht : P.underlying t = some (.struct #[f0, f1])) (o0 : f0.offset = 0) (o1 : f1.offset = 1) (t0 : f0.type = s) (t1 : f1.type = d) (hs : P.underlying s = some .string) (hd : P.underlying d = some (.array 2 e)) (he : P.underlying e = some (.int .u64))
    (hC : P.cellsOf t = 3) (hcs : P.cellsOf s = 1) (hcd : P.cellsOf d = 2) (hc : P.cellsOf e = 1)
    (h : DataW.trod enc P w base spare held fuel t cs = some x) : ∃ r : Rf, cs = rfC r ∧ r.1.size ≤ maxLen := by
  obtain ⟨xs, m, _, _, hlen, hxl, hf⟩ := DataW.trod_struct ht h
  rw [hC] at hlen
  obtain ⟨c0, c1, c2, rfl⟩ := len3 hlen
  obtain ⟨y0, y1, rfl⟩ := len2 hxl
  have h0 := hf 0 f0 rfl
  have h1 := hf 1 f1 rfl
  rw [o0, t0, hcs] at h0
  rw [o1, t1, hcd] at h1
  simp at h0 h1
  obtain ⟨a, ha, _, hz⟩ := DataW.trod_string hs h0
  obtain ⟨b, c, hb⟩ := trod_digP hd he hcd hc h1
  simp at ha hb
  exact ⟨(a, (b, c)), by rw [ha, hb.1, hb.2]; rfl, hz⟩
theorem trod_upP {t s d e : TypeId} {f0 f1 f2 : Field} (ht : P.underlying t = some (.struct #[f0, f1, f2])) (o0 : f0.offset = 0) (o1 : f1.offset = 1) (o2 : f2.offset = 3) (t0 : f0.type = s) (t1 : f1.type = d) (t2 : f2.type = d) (hs : P.underlying s = some .string) (hd : P.underlying d = some (.array 2 e)) (he : P.underlying e = some (.int .u64))
    (hC : P.cellsOf t = 5) (hcs : P.cellsOf s = 1) (hcd : P.cellsOf d = 2) (hc : P.cellsOf e = 1)
    (h : DataW.trod enc P w base spare held fuel t cs = some x) : ∃ u : Upd, cs = upC u ∧ u.1.size ≤ maxLen := by
  obtain ⟨xs, m, _, _, hlen, hxl, hf⟩ := DataW.trod_struct ht h
  rw [hC] at hlen
  obtain ⟨c0, c1, c2, c3, c4, rfl⟩ := len5 hlen
  obtain ⟨y0, y1, y2, rfl⟩ := len3 hxl
  have h0 := hf 0 f0 rfl
  have h1 := hf 1 f1 rfl
  have h2 := hf 2 f2 rfl
  rw [o0, t0, hcs] at h0
  rw [o1, t1, hcd] at h1
  rw [o2, t2, hcd] at h2
  simp at h0 h1 h2
  obtain ⟨a, ha, _, hz⟩ := DataW.trod_string hs h0
  obtain ⟨b, c, hb⟩ := trod_digP hd he hcd hc h1
  obtain ⟨b2, c2', hb2⟩ := trod_digP hd he hcd hc h2
  simp at ha hb hb2
  exact ⟨(a, (b, c), (b2, c2')), by rw [ha, hb.1, hb.2, hb2.1, hb2.2]; rfl, hz⟩

/-- A slice of such things. -/
theorem trod_slP {α : Type} {t e : TypeId} {s : Nat} {encA : α → List Value} {Q : α → Prop} (ht : P.underlying t = some (.slice e)) (hC : P.cellsOf e = s) (h0 : 0 < s) (hl : ∀ a, (encA a).length = s)
    (hel : ∀ (fuel : Nat) (cs : List Value) (x : DataW H × List MemPlace), DataW.trod enc P w base spare held fuel e cs = some x → ∃ a, cs = encA a ∧ Q a)
    (h : DataW.trod enc P w base spare held fuel t cs = some x) : ∃ A n c xs, cs = [.slice A n c] ∧ Sl w w.heap.size s A n (flat encA xs) ∧ n ≤ c ∧ c ≤ maxLen ∧ ∀ a ∈ xs, Q a := by
  rcases open_slice ht h with ⟨rfl, _⟩ | ⟨a, len, cap, m, n, D, Pl, rfl, _, hlc, hcm, hm, _, hi⟩
  · exact ⟨none, 0, 0, [], rfl, Sl.nil _ _ _ _, Nat.le_refl _, Nat.zero_le _, fun a ha => by cases ha⟩
  · have hlm : len ≤ m := by rw [hm]; split <;> omega
    obtain ⟨xs, hxl, hxs⟩ := list_of (p := fun i (y : α) => w.cells? base (a.add (i * s)) s = some (encA y) ∧ Q y) len (fun i hi' => by
      obtain ⟨cs', hc, ht'⟩ := hi i (by omega)
      obtain ⟨y, rfl, hq⟩ := hel _ _ _ ht'
      rw [hC] at hc
      exact ⟨y, hc, hq⟩)
    refine ⟨some a, len, cap, xs, rfl, ⟨by rw [flat_len hl, hxl], fun hn => ?_⟩, hlc, hcm, fun y hy => ?_⟩
    · have hcell : ∀ (k j : Nat) (y : α), xs[k]? = some y → j < s → w.cell? ((a.add (k * s)).add j) = (encA y)[j]? := fun k j y hy hj => (World.cells?_some (hxs k y hy).1).2.2 j hj
      have hx0 : xs[0]? = some (xs[0]'(by omega)) := List.getElem?_eq_getElem (by omega)
      have hsome : ∃ v, w.cell? a = some v := by
        have := hcell 0 0 _ hx0 h0
        have hg : (encA (xs[0]'(by omega)))[0]? = some ((encA (xs[0]'(by omega)))[0]'(by rw [hl]; exact h0)) := List.getElem?_eq_getElem (by rw [hl]; exact h0)
        rw [hg] at this
        simp [Addr.add] at this
        exact ⟨_, this⟩
      obtain ⟨v, hv⟩ := hsome
      have hsp := World.cell?_spot hv
      obtain ⟨b, off, sp⟩ := a
      simp only at hsp
      subst hsp
      refine ⟨b, off, rfl, ?_, fun j u hu => ?_⟩
      · unfold World.cell? at hv
        simp only at hv
        rcases Nat.lt_or_ge b w.heap.size with hb | hb
        · exact hb
        · rw [Array.getElem?_eq_none hb] at hv; cases hv
      · have hj : j < xs.length * s := by
          have := (List.getElem?_eq_some_iff.1 hu).1
          rwa [flat_len hl] at this
        have hk : j / s < xs.length := Nat.div_lt_of_lt_mul (by rwa [Nat.mul_comm] at hj)
        have hr : j % s < s := Nat.mod_lt _ h0
        have hy : xs[j / s]? = some (xs[j / s]'hk) := List.getElem?_eq_getElem hk
        have e : j / s * s + j % s = j := by rw [Nat.mul_comm]; exact Nat.div_add_mod j s
        have h1 := flat_get hl xs (j / s) (j % s) _ hy hr
        rw [e, hu] at h1
        have h2 := hcell (j / s) (j % s) _ hy hr
        rw [← h1, Go.Deep.add_add, e] at h2
        rw [← h2]
        congr 1
        unfold Addr.add
        split
        · rename_i hz; subst hz; rfl
        · rfl
    · obtain ⟨i, hi', rfl⟩ := List.getElem_of_mem hy
      exact (hxs i _ (List.getElem?_eq_getElem hi')).2
end
end Go.Proofs.YtikmiabncbhioaaDoor
