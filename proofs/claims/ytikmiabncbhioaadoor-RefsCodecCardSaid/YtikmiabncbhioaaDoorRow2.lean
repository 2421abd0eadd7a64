/-
  Rows with a string or an integer among their parameters: what such a parameter is.
-/
import Derived.Test.YtikmiabncbhioaaDoorRow
import Derived.ChangeMaps5
namespace Go.Proofs.YtikmiabncbhioaaDoor
open Go.RowKit
variable {H : Type} {enc : TypeId × Value → H} {W : World} {r : Reach} {b0 base : Nat} {sp : Nat → Bool} {held : Bool} {v : Value} {d : DataW H} {p : List MemPlace}
set_option maxRecDepth 100000 in
theorem open_str (hv : Value.okWide Tryd.prog W r b0 9 v) (h : DataW.Trod enc Tryd.prog W base sp held 9 v d p) : ∃ s, v = .string s ∧ s.size ≤ maxLen := by
  obtain ⟨s, rfl, _, _, hs⟩ := Go.ChangeMaps.open_string Tryd.underlying9 hv h
  exact ⟨s, rfl, hs⟩
set_option maxRecDepth 100000 in
theorem open_i64 (hv : Value.okWide Tryd.prog W r b0 3 v) (h : DataW.Trod enc Tryd.prog W base sp held 3 v d p) : ∃ n, v = .int .i64 n := by
  obtain ⟨n, rfl, _⟩ := Go.ChangeShapes.open_int Tryd.underlying3 hv h
  exact ⟨n, rfl⟩
end Go.Proofs.YtikmiabncbhioaaDoor
