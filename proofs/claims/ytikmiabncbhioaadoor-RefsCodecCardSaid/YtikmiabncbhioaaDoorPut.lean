/-
  codec.PutInt and PutText, cordwoodref01.put, PutInt and PutText.
-/
import Derived.Test.YtikmiabncbhioaaDoorWri
import Derived.Deep.QuietTactic
import Derived.BigQuiet
namespace Go.Proofs.YtikmiabncbhioaaDoor
open Go.RowKit

theorem strCells_eq (s : ByteArray) : Lib.strCells s = Lib.byteCells (toL s) := by simp [Lib.strCells, Lib.byteCells, toL]
theorem inRange_any (n : Nat) (hn : n ≤ 1099511627776) (w : World) : Calls Tryd.prog 68 #[.int .i64 n] w fun e w' => e = .returned (.bool true) ∧ w = w' := by
  have h0 : (0 : Int) ≤ (n : Int) := by omega
  have h1 : (n : Int) ≤ 1099511627776 := by omega
  go_enter Tryd.func68, Tryd.ntmps68
  go_wp2
  go_ret
  exact ⟨rfl, rfl⟩

set_option maxHeartbeats 1000000 in
theorem putInt_any (n : Nat) (hn : n ≤ 1099511627776) (w : World) :
    Calls Tryd.prog 42 #[.int .i64 n] w fun e w' => e = .returned (.tuple #[.string (ofL (encN n)), .int .i64 0]) ∧ Below w.heap.size w w' := by
  go_enter Tryd.func42, Tryd.ntmps42
  go_wp2_with (go_at_call 68; refine (inRange_any n hn _).mono ?_; rintro e w' ⟨rfl, rfl⟩)
  have hb := Lib.fresh_isBuilder 99 5 w
  refine (writeInt_any w.heap.size w.heap.size [] n _ hb (by simp) hn (by simp)).mono ?_
  rintro e w1 ⟨rfl, h1, hb1⟩
  rw [List.nil_append] at h1
  have H1 := Lib.hid h1
  have HB1 : Hid (Below w.heap.size w w1) := ((Below.refl _ w).alloc (Nat.le_refl _) _).trans hb1
  clear hb hb1 h1
  go_wp2_with fail
  refine (Tryd.Builder_String_any w.heap.size w.heap.size (encN n) _ H1.out HB1.out.size).mono ?_
  rintro e w2 ⟨rfl, hb2⟩
  have HB2 := Lib.hid (HB1.out.trans hb2); clear hb2
  go_wp2_with fail
  go_ret2
  exact ⟨rfl, HB2.out⟩

set_option maxHeartbeats 1000000 in
theorem putText_any (s : ByteArray) (hs : s.size ≤ 65536) (w : World) :
    Calls Tryd.prog 43 #[.string s] w fun e w' => e = .returned (.tuple #[.string (ofL (encT (toL s))), .int .i64 0]) ∧ Below w.heap.size w w' := by
  have hsi : ¬ (65536 : Int) < (s.size : Int) := by omega
  have hsz := size_toL s
  have HSZ := Lib.hid hsz; clear hsz
  go_enter Tryd.func43, Tryd.ntmps43
  go_wp2_with fail
  have hb := Lib.fresh_isBuilder 99 5 w
  refine (writeInt_any w.heap.size w.heap.size [] s.size _ hb (by simp) (by omega) (by simp)).mono ?_
  rintro e w1 ⟨rfl, h1, hb1⟩
  rw [List.nil_append] at h1
  have H1 := Lib.hid h1
  have HB1 : Hid (Below w.heap.size w w1) := ((Below.refl _ w).alloc (Nat.le_refl _) _).trans hb1
  clear hb hb1 h1
  go_wp2_with fail
  refine (writeString_any w.heap.size w.heap.size (Lib.byteCells (encN s.size)) s _ H1.out (by rw [byteCells_len]; have := encN_len 5 s.size (by omega); omega) HB1.out.size).mono ?_
  rintro e w2 ⟨rfl, h2, hb2, _⟩
  have H2 : Hid (Lib.IsBuilder 99 5 w.heap.size w.heap.size (Lib.byteCells (encT (toL s))) w2) := by
    refine .inr ?_
    have e1 : Lib.byteCells (encN s.size) ++ Lib.strCells s = Lib.byteCells (encT (toL s)) := by
      rw [strCells_eq]; unfold encT; rw [← HSZ.out]; simp [Lib.byteCells]
    rw [← e1]; exact h2
  have HB2 := Lib.hid (HB1.out.trans hb2)
  clear hb2 h2
  go_wp2_with fail
  refine (Tryd.Builder_String_any w.heap.size w.heap.size _ _ H2.out HB2.out.size).mono ?_
  rintro e w3 ⟨rfl, hb3⟩
  have HB3 := Lib.hid (HB2.out.trans hb3); clear hb3
  go_wp2_with fail
  go_ret2
  exact ⟨rfl, HB3.out⟩
end Go.Proofs.YtikmiabncbhioaaDoor
