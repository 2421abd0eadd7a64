/-
  Rows with a list of updates whose digests are numbers of 64 bits.
-/
import Derived.Test.YtikmiabncbhioaaDoorRow2
import Derived.Test.YtikmiabncbhioaaDoorCod
namespace Go.Proofs.YtikmiabncbhioaaDoor
open Go.ChangeShapes Go.WideShapes Go.ChangeAt Go.RowKit Go.Joins Go.Deep

theorem wf64 {n : Int} (h : (Lit.int .u64 n).wf = true) : 0 ≤ n ∧ n < 18446744073709551616 := by
  simp only [Lit.wf, Bool.and_eq_true, decide_eq_true_eq] at h
  have h1 : IntKind.u64.min = 0 := by decide
  have h2 : IntKind.u64.max = 18446744073709551615 := by decide
  rw [h1, h2] at h
  omega
section
variable {H : Type} {enc : TypeId × Value → H} {P : Program} {w : World} {base : Nat} {spare : Nat → Bool} {held : Bool} {fuel : Nat} {cs : List Value} {x : DataW H × List MemPlace}
theorem trod_digW {t e : TypeId} (ht : P.underlying t = some (.array 2 e)) (he : P.underlying e = some (.int .u64)) (hC : P.cellsOf t = 2) (hc : P.cellsOf e = 1)
    (h : DataW.trod enc P w base spare held fuel t cs = some x) : ∃ a b, cs = [.int .u64 a, .int .u64 b] ∧ WfD (a, b) := by
  obtain ⟨xs, m, _, _, hlen, hxl, hf⟩ := DataW.trod_array ht h
  rw [hC] at hlen
  obtain ⟨c0, c1, rfl⟩ := len2 hlen
  obtain ⟨y0, y1, rfl⟩ := len2 hxl
  have h0 := hf 0 (by omega)
  have h1 := hf 1 (by omega)
  rw [hc] at h0 h1
  simp at h0 h1
  obtain ⟨a, ha, _, wa⟩ := DataW.trod_int he h0
  obtain ⟨b, hb, _, wb⟩ := DataW.trod_int he h1
  simp at ha hb
  exact ⟨a, b, by rw [ha, hb], (wf64 wa).1, (wf64 wa).2, (wf64 wb).1, (wf64 wb).2⟩
theorem trod_upW {t s d e : TypeId} {f0 f1 f2 : Field} (ht : P.underlying t = some (.struct #[f0, f1, f2])) (o0 : f0.offset = 0) (o1 : f1.offset = 1) (o2 : f2.offset = 3) (t0 : f0.type = s) (t1 : f1.type = d) (t2 : f2.type = d) (hs : P.underlying s = some .string) (hd : P.underlying d = some (.array 2 e)) (he : P.underlying e = some (.int .u64))
    (hC : P.cellsOf t = 5) (hcs : P.cellsOf s = 1) (hcd : P.cellsOf d = 2) (hc : P.cellsOf e = 1)
    (h : DataW.trod enc P w base spare held fuel t cs = some x) : ∃ u : Upd, cs = upC u ∧ (u.1.size ≤ maxLen ∧ WfU u) := by
  obtain ⟨xs, m, _, _, hlen, hxl, hf⟩ := DataW.trod_struct ht h
  rw [hC] at hlen
  obtain ⟨c0, c1, c2, c3, c4, rfl⟩ := len5 hlen
  obtain ⟨y0, y1, y2, rfl⟩ := len3 hxl
  have h0 := hf 0 f0 rfl
  have h1 := hf 1 f1 rfl
  have h2 := hf 2 f2 rfl
  rw [o0, t0, hcs] at h0
  rw [o1, t1, hcd] at h1
  rw [o2, t2, hcd] at h2
  simp at h0 h1 h2
  obtain ⟨a, ha, _, hz⟩ := DataW.trod_string hs h0
  obtain ⟨b, c, hb, wb⟩ := trod_digW hd he hcd hc h1
  obtain ⟨b2, c2', hb2, wb2⟩ := trod_digW hd he hcd hc h2
  simp at ha hb hb2
  exact ⟨(a, (b, c), (b2, c2')), by rw [ha, hb.1, hb.2, hb2.1, hb2.2]; rfl, hz, wb, wb2⟩
end
section
variable {H : Type} {enc : TypeId × Value → H} {W : World} {base : Nat} {v : Value} {d : DataW H} {p : List MemPlace} {r : Reach} {b0 : Nat} {sp : Nat → Bool} {held : Bool}
set_option maxRecDepth 100000 in
theorem open_updsW (hv : Value.okWide Tryd.prog W r b0 23 v) (h : DataW.Trod enc Tryd.prog W base sp held 23 v d p) : ∃ A n c us, v = .slice A n c ∧ Sl W W.heap.size 5 A n (flat upC us) ∧ n ≤ c ∧ c ≤ maxLen ∧ (∀ u ∈ us, u.1.size ≤ maxLen) ∧ ∀ u ∈ us, WfU u := by
  obtain ⟨A, n, c, rfl⟩ := okWide_slice Tryd.underlying23 hv
  obtain ⟨fuel, hf⟩ := h
  obtain ⟨A', n', c', us, he, h1, h2, h3, h4⟩ := trod_slP (encA := upC) (Q := fun u => u.1.size ≤ maxLen ∧ WfU u) Tryd.underlying23 cells30 (by omega) upC_len (fun _ _ _ hh => trod_upW Tryd.underlying30 rfl rfl rfl rfl rfl rfl Tryd.underlying9 Tryd.underlying28 under26 cells30 cells9 cells28 cells26 hh) hf
  refine ⟨A', n', c', us, ?_, h1, h2, h3, fun u hu => (h4 u hu).1, fun u hu => (h4 u hu).2⟩
  have : [Value.slice A n c] = [Value.slice A' n' c'] := he
  simpa using this
end
end Go.Proofs.YtikmiabncbhioaaDoor
