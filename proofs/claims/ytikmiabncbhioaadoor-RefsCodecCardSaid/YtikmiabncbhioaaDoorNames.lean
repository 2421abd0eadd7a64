/-
  The names: objectname.letter, objectname.Valid and cordwoodref07.ValidName answer `validB`.
-/
import Derived.Test.YtikmiabncbhioaaDoorProg
import Derived.Test.YtikmiabncbhioaaDoorBase
namespace Go.Proofs.YtikmiabncbhioaaDoor
open Go.RowKit

def letterB (c : Int) : Bool :=
  (decide (97 ≤ c) && decide (c ≤ 122)) || (decide (65 ≤ c) && decide (c ≤ 90)) || (decide (48 ≤ c) && decide (c ≤ 57)) || (c == 46) || (c == 95) || (c == 45)

set_option maxHeartbeats 400000 in
theorem letter_any (c : Int) (w : World) :
    Calls Tryd.prog 77 #[.int .u8 c] w fun e w' => e = .returned (.bool (letterB c)) ∧ w = w' := by
  go_enter Tryd.func77, Tryd.ntmps77
  go_wp2
  all_goals (go_ret; refine ⟨ret_bool ?_, rfl⟩; rw [Bool.eq_iff_iff]; simp [letterB]; try omega)

def byteOk (c : UInt8) : Bool := letterB (c.toNat : Int)
def validL (l : List UInt8) : Bool := decide (1 ≤ l.length) && decide (l.length ≤ 24) && !(l == [46]) && !(l == [46, 46]) && l.all byteOk
def validB (s : ByteArray) : Bool := validL s.data.toList

theorem size_len (s : ByteArray) : s.size = s.data.toList.length := (Array.length_toList).symm
theorem get_data (s : ByteArray) (k : Nat) (h : k < s.size) : s.data.toList[k]? = some s[k] := by
  rw [List.getElem?_eq_getElem (by rw [← size_len]; exact h)]; rfl

theorem valid_short (s : ByteArray) (h : (s.size : Int) < 1) : validB s = false := by
  have := size_len s
  simp [validB, validL]; intro h1; omega
theorem valid_long (s : ByteArray) (h : 24 < (s.size : Int)) : validB s = false := by
  have := size_len s
  simp [validB, validL]; intro h1 h2; omega
theorem valid_dot (s : ByteArray) (h : s.toList = [46]) : validB s = false := by
  rw [ByteArray.toList_eq] at h
  simp [validB, validL, h]
theorem valid_dots (s : ByteArray) (h : s.toList = [46, 46]) : validB s = false := by
  rw [ByteArray.toList_eq] at h
  simp [validB, validL, h]
theorem valid_bad (s : ByteArray) (k : Nat) (hk : k < s.size) (h : byteOk s[k] = false) : validB s = false := by
  have hm : s[k] ∈ s.data.toList := List.mem_of_getElem? (get_data s k hk)
  have : s.data.toList.all byteOk = false := by
    rw [List.all_eq_false]; exact ⟨_, hm, by simp [h]⟩
  simp [validB, validL, this]
theorem valid_yes (s : ByteArray) (h1 : 1 ≤ (s.size : Int)) (h2 : (s.size : Int) ≤ 24) (h3 : ¬ s.toList = [46]) (h4 : ¬ s.toList = [46, 46]) (h5 : (s.data.toList.take s.size).all byteOk = true) : validB s = true := by
  have hl := size_len s
  rw [ByteArray.toList_eq] at h3 h4
  rw [List.take_of_length_le (by omega)] at h5
  simp only [validB, validL, h5, Bool.and_true, Bool.and_eq_true, decide_eq_true_eq, Bool.not_eq_true', beq_eq_false_iff_ne]
  exact ⟨⟨⟨by omega, by omega⟩, h3⟩, h4⟩

set_option maxHeartbeats 400000 in
theorem valid_any (s : ByteArray) (w : World) :
    Calls Tryd.prog 66 #[.string s] w fun e w' => e = .returned (.bool (validB s)) ∧ w = w' := by
  by_cases c1 : (s.size : Int) < 1
  · have hv := Lib.hid (valid_short s c1)
    go_enter Tryd.func66, Tryd.ntmps66
    go_wp2
    go_ret
    exact ⟨ret_bool hv.out.symm, rfl⟩
  by_cases c2 : 24 < (s.size : Int)
  · have hv := Lib.hid (valid_long s c2)
    go_enter Tryd.func66, Tryd.ntmps66
    go_wp2
    go_ret
    exact ⟨ret_bool hv.out.symm, rfl⟩
  by_cases c3 : s.toList = [46]
  · have hv := Lib.hid (valid_dot s c3)
    have c3' : (s.toList == [46]) = true := by simp [c3]
    clear c3
    go_enter Tryd.func66, Tryd.ntmps66
    go_wp2
    go_ret
    exact ⟨ret_bool hv.out.symm, rfl⟩
  have c3' : (s.toList == [46]) = false := by simp [c3]
  by_cases c4 : s.toList = [46, 46]
  · have hv := Lib.hid (valid_dots s c4)
    have c4' : (s.toList == [46, 46]) = true := by simp [c4]
    clear c3 c4
    go_enter Tryd.func66, Tryd.ntmps66
    go_wp2
    go_ret
    exact ⟨ret_bool hv.out.symm, rfl⟩
  have c4' : (s.toList == [46, 46]) = false := by simp [c4]
  have H3 := Lib.hid c3
  have H4 := Lib.hid c4
  clear c3 c4
  go_enter Tryd.func66, Tryd.ntmps66
  go_wp2
  go_loop [22] (fun i => ∃ k : Nat, k ≤ s.size ∧ i = .int .i64 k ∧ Hid ((s.data.toList.take k).all byteOk = true)) (fun i => s.size - (intOf i).toNat)
  case atStart => exact ⟨0, Nat.zero_le _, rfl, by simp [Hid]⟩
  case round =>
    obtain ⟨k, hk, rfl, hall⟩ := hrel
    by_cases hlt : k < s.size
    · cases hb : byteOk s[k] with
      | true =>
        have hn : Hid ((s.data.toList.take (k + 1)).all byteOk = true) := by
          show _ = true
          rw [take_snoc (get_data s k hlt), List.all_append, hall.out]; simp [hb]
        have hb' : letterB (s[k].toNat : Int) = true := hb
        have HB := Lib.hid hb'
        clear hb hb' hall
        go_wp2_with (go_at_call 77; refine (letter_any _ _).mono ?_; rintro e w' ⟨rfl, rfl⟩; rw [HB.out])
        go_round
        case rel => exact ⟨k + 1, by omega, by go_num, hn⟩
        case measure => simp [intOf]; omega
      | false =>
        have hv := Lib.hid (valid_bad s k hlt hb)
        have hb' : letterB (s[k].toNat : Int) = false := hb
        have HB := Lib.hid hb'
        clear hb hb' hall
        go_wp2_with (go_at_call 77; refine (letter_any _ _).mono ?_; rintro e w' ⟨rfl, rfl⟩; rw [HB.out])
        go_ret
        exact ⟨ret_bool hv.out.symm, rfl⟩
    · have hk' : k = s.size := by omega
      have hv := Lib.hid (valid_yes s (by omega) (by omega) H3.out H4.out (hk' ▸ hall.out))
      clear hk'
      go_wp2
      go_ret
      exact ⟨ret_bool hv.out.symm, rfl⟩

set_option maxHeartbeats 1000000 in
theorem valid7_any (s : ByteArray) (w : World) :
    Calls Tryd.prog 67 #[.string s] w fun e w' => e = .returned (.bool (validB s)) ∧ w = w' := by
  by_cases c1 : (s.size : Int) < 1
  · have hv := Lib.hid (valid_short s c1)
    go_enter Tryd.func67, Tryd.ntmps67
    go_wp2
    go_ret
    exact ⟨ret_bool hv.out.symm, rfl⟩
  by_cases c2 : 24 < (s.size : Int)
  · have hv := Lib.hid (valid_long s c2)
    go_enter Tryd.func67, Tryd.ntmps67
    go_wp2
    go_ret
    exact ⟨ret_bool hv.out.symm, rfl⟩
  by_cases c3 : s.toList = [46]
  · have hv := Lib.hid (valid_dot s c3)
    have c3' : (s.toList == [46]) = true := by simp [c3]
    clear c3
    go_enter Tryd.func67, Tryd.ntmps67
    go_wp2
    go_ret
    exact ⟨ret_bool hv.out.symm, rfl⟩
  have c3' : (s.toList == [46]) = false := by simp [c3]
  by_cases c4 : s.toList = [46, 46]
  · have hv := Lib.hid (valid_dots s c4)
    have c4' : (s.toList == [46, 46]) = true := by simp [c4]
    clear c3 c4
    go_enter Tryd.func67, Tryd.ntmps67
    go_wp2
    go_ret
    exact ⟨ret_bool hv.out.symm, rfl⟩
  have c4' : (s.toList == [46, 46]) = false := by simp [c4]
  have H3 := Lib.hid c3
  have H4 := Lib.hid c4
  clear c3 c4
  go_enter Tryd.func67, Tryd.ntmps67
  go_wp2
  go_loop [3] (fun i => ∃ k : Nat, k ≤ s.size ∧ i = .int .i64 k ∧ Hid ((s.data.toList.take k).all byteOk = true)) (fun i => s.size - (intOf i).toNat)
  case atStart => exact ⟨0, Nat.zero_le _, rfl, by simp [Hid]⟩
  case round =>
    obtain ⟨k, hk, rfl, hall⟩ := hrel
    by_cases hlt : k < s.size
    · have hn : Hid (byteOk s[k] = true → (s.data.toList.take (k + 1)).all byteOk = true) := by
        intro hb
        rw [take_snoc (get_data s k hlt), List.all_append, hall.out]; simp [hb]
      have hv : Hid (byteOk s[k] = false → validB s = false) := fun hb => valid_bad s k hlt hb
      clear hall
      go_wp2
      all_goals (try simp only [Bool.not_eq_true', Bool.not_eq_false', decide_eq_true_eq, decide_eq_false_iff_not, beq_iff_eq, beq_eq_false_iff_ne, ne_eq] at *)
      all_goals first
        | (go_round
           case rel => exact ⟨k + 1, by omega, by go_num, hn.out (by unfold byteOk letterB; simp; omega)⟩
           case measure => simp [intOf]; omega)
        | (go_ret
           exact ⟨ret_bool (hv.out (by unfold byteOk letterB; simp; omega)).symm, rfl⟩)
    · have hk' : k = s.size := by omega
      have hv := Lib.hid (valid_yes s (by omega) (by omega) H3.out H4.out (hk' ▸ hall.out))
      clear hk'
      go_wp2
      go_ret
      exact ⟨ret_bool hv.out.symm, rfl⟩
end Go.Proofs.YtikmiabncbhioaaDoor
