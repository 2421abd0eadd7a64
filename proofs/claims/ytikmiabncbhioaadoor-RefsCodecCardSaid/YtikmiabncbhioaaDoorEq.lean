/-
  How '==' answers on digests, refs and updates of this program.
-/
import Derived.Test.YtikmiabncbhioaaDoorSeq
import Derived.Laws.StructEq
namespace Go.Proofs.YtikmiabncbhioaaDoor
open Go.RowKit

@[go_sem] theorem guard28 : Tryd.prog.eqGuardType Tryd.prog.depth 28 = false := by kernel_rfl
@[go_sem] theorem guard30 : Tryd.prog.eqGuardType Tryd.prog.depth 30 = false := by kernel_rfl
@[go_sem] theorem guard56 : Tryd.prog.eqGuardType Tryd.prog.depth 56 = false := by kernel_rfl

theorem eq28 (dd : Nat) (a b c d : Int) (w : World) : (Op.equalIn (dd + 2) 28 (.agg #[.int .u64 a, .int .u64 b]) (.agg #[.int .u64 c, .int .u64 d])).run Tryd.prog w = .ok (a == c && b == d) w := by
  have u3 := Tryd.underlying26
  have a3 := Tryd.isAgg26
  have z3 := Tryd.sizeOf26
  rw [Op.equalIn]
  simp only [Sem.run_bind, run_underlying Tryd.underlying28, Result.andThen_ok]
  simp only [Std.Legacy.Range.forIn_eq_forIn_range', Std.Legacy.Range.size, Nat.sub_zero, Nat.add_sub_cancel, Nat.div_one, List.range'_succ, List.range'_zero, List.forIn_cons, List.forIn_nil]
  go_simp
  by_cases h1 : a = c <;> by_cases h2 : b = d <;> simp [h1, h2]
@[go_sem high] theorem eq28w (a b c d : Int) (w : World) : (Op.equalIn 10000 28 (.agg #[.int .u64 a, .int .u64 b]) (.agg #[.int .u64 c, .int .u64 d])).run Tryd.prog w = .ok (a == c && b == d) w := eq28 9998 a b c d w

theorem stood56 : Tryd.prog.stoodInHeld 56 = false := by kernel_rfl
theorem stood30 : Tryd.prog.stoodInHeld 30 = false := by kernel_rfl

@[go_sem high] theorem eq56w (s t : ByteArray) (a b c d : Int) (w : World) : (Op.equalIn 10000 56 (.agg #[.string s, .int .u64 a, .int .u64 b]) (.agg #[.string t, .int .u64 c, .int .u64 d])).run Tryd.prog w = .ok (s.toList == t.toList && (a == c && b == d)) w := by
  have hS : Tryd.prog.underlying 56 = some (.struct (Tryd.prog.fieldsOf 56)) := by kernel_rfl
  have a28 := Tryd.isAgg28
  have z28 := Tryd.sizeOf28
  have a9 := Tryd.isAgg9
  have u9 := Tryd.underlying9
  have e28 := fun w => eq28 9997 a b c d w
  rw [show (10000 : Nat) = 9999 + 1 from rfl, run_equalIn_agg w 9999 56 _ _ hS stood56]
  simp only [Program.fieldsOf, Tryd.underlying56]
  go_simp
  by_cases h1 : s.toList = t.toList <;> by_cases h2 : a = c <;> by_cases h3 : b = d <;> simp [h1, h2, h3]

@[go_sem high] theorem eq30w (s t : ByteArray) (a b c d a' b' c' d' : Int) (w : World) :
    (Op.equalIn 10000 30 (.agg #[.string s, .int .u64 a, .int .u64 b, .int .u64 c, .int .u64 d]) (.agg #[.string t, .int .u64 a', .int .u64 b', .int .u64 c', .int .u64 d'])).run Tryd.prog w = .ok (s.toList == t.toList && (a == a' && b == b') && (c == c' && d == d')) w := by
  have hS : Tryd.prog.underlying 30 = some (.struct (Tryd.prog.fieldsOf 30)) := by kernel_rfl
  have a28 := Tryd.isAgg28
  have z28 := Tryd.sizeOf28
  have a9 := Tryd.isAgg9
  have u9 := Tryd.underlying9
  have e28 := fun a b c d w => eq28 9997 a b c d w
  rw [show (10000 : Nat) = 9999 + 1 from rfl, run_equalIn_agg w 9999 30 _ _ hS stood30]
  simp only [Program.fieldsOf, Tryd.underlying30]
  go_simp
  by_cases h1 : s.toList = t.toList <;> by_cases h2 : a = a' <;> by_cases h3 : b = b' <;> by_cases h4 : c = c' <;> by_cases h5 : d = d' <;> simp [h1, h2, h3, h4, h5]
end Go.Proofs.YtikmiabncbhioaaDoor
