/-
  GetInt and GetText, of the program and of the reference: what a number or a text at the beginning of a string is.
-/
import Derived.Test.YtikmiabncbhioaaDoorRPut
namespace Go.Proofs.YtikmiabncbhioaaDoor
open Go.RowKit

def RetI (r : Nat × Nat × Int) (w : World) (e : Ending) (w' : World) : Prop := e = .returned (.tuple #[.int .i64 r.1, .int .i64 r.2.1, .int .i64 r.2.2]) ∧ w = w'
theorem drop_byte {s : ByteArray} {k : Nat} (h : k < s.size) : (toL s).drop k = s[k] :: (toL s).drop (k + 1) := by
  rw [List.drop_eq_getElem_cons (by rw [← size_toL]; exact h)]; rfl

set_option maxRecDepth 100000 in
set_option maxHeartbeats 2000000 in
theorem getInt_any (s : ByteArray) (w : World) : Calls Tryd.prog 57 #[.string s] w (RetI (getI (toL s)) w) := by
  have HR : Hid (∀ r, getI (toL s) = r → ∀ e w', RetI r w e w' → RetI (getI (toL s)) w e w') := fun r h e w' hh => by rw [h]; exact hh
  have H0 : Hid (getI (toL s) = gi 6 0 0 1 ((toL s).drop 0)) := rfl
  go_enter Tryd.func57, Tryd.ntmps57
  go_wp2
  go_loop [5, 6, 9] (fun n u i => ∃ k a b : Nat, k ≤ 6 ∧ i = .int .i64 k ∧ n = .int .i64 a ∧ u = .int .i64 b ∧ 1 ≤ b ∧ b ≤ 128 ^ 6 ∧ Hid (b = 128 ^ k) ∧ a < b ∧ Hid (getI (toL s) = gi (6 - k) k a b ((toL s).drop k))) (fun _ _ i => 6 - (intOf i).toNat)
  case atStart => exact ⟨0, 0, 1, by omega, rfl, rfl, rfl, by omega, by omega, rfl, by omega, H0.out⟩
  case round =>
    obtain ⟨k, a, b, hk, rfl, rfl, rfl, hb1, hb2, hb, hab, hg⟩ := hrel
    by_cases hlt : k < 6
    · have hf : Hid (6 - k = 5 - k + 1) := by show _ = _; omega
      by_cases hsz : k < s.size
      · have hsz' : ¬ (s.size : Int) ≤ (k : Int) := by omega
        have hbn : Hid (128 * b = 128 ^ (k + 1)) := by show _ = _; rw [hb.out, Nat.pow_succ, Nat.mul_comm]
        have hbp : 128 * b ≤ 128 ^ 6 := by rw [hbn.out]; exact Nat.pow_le_pow_right (by omega) (by omega)
        have hst : Hid (getI (toL s) = if s[k].toNat < 128 then (if (s[k].toNat = 0 ∧ 0 < k) ∨ 1099511627776 < a + s[k].toNat * b then (0, 0, 13) else (a + s[k].toNat * b, k + 1, 0)) else gi (5 - k) (k + 1) (a + (s[k].toNat - 128) * b) (b * 128) ((toL s).drop (k + 1))) := by
          show _ = _
          rw [hg.out, hf.out, drop_byte hsz, gi]
        have hd : s[k].toNat < 256 := s[k].toNat_lt
        generalize hdd : s[k].toNat = d at *
        have hdi : (s[k].toNat : Int) = (d : Int) := by rw [hdd]
        clear hdd
        by_cases h128 : d < 128
        · obtain ⟨p, hp⟩ : ∃ p, d * b = p := ⟨_, rfl⟩
          have hpb : p ≤ 128 * b := by rw [← hp]; exact Nat.mul_le_mul_right _ (by omega)
          have hpi : (d : Int) * (b : Int) = (p : Int) := by rw [← hp]; simp
          have h128i : ¬ (128 : Int) ≤ (d : Int) := by omega
          rw [hp, if_pos h128] at hst
          clear hp
          by_cases hmx : 1099511627776 < a + p
          · have hmxi : (1099511627776 : Int) < (a : Int) + (p : Int) := by omega
            have hfin : Hid (getI (toL s) = (0, 0, 13)) := by show _ = _; rw [hst.out, if_pos (.inr hmx)]
            clear hst hg
            by_cases hd0 : d = 0
            · have hd0i : ((d : Int) == 0) = true := by rw [beq_iff_eq]; omega
              clear hd0
              by_cases hk0 : (0 : Int) < (k : Int)
              all_goals
                go_wp2
                go_ret3
                exact HR.out _ hfin.out _ _ ⟨rfl, rfl⟩
            · have hd0i : ((d : Int) == 0) = false := by rw [beq_eq_false_iff_ne]; omega
              clear hd0
              go_wp2
              go_ret3
              exact HR.out _ hfin.out _ _ ⟨rfl, rfl⟩
          · have hmxi : ¬ (1099511627776 : Int) < (a : Int) + (p : Int) := by omega
            by_cases hd0 : d = 0
            · have hd0i : ((d : Int) == 0) = true := by rw [beq_iff_eq]; omega
              by_cases hk0 : 0 < k
              · have hk0i : (0 : Int) < (k : Int) := by omega
                have hfin : Hid (getI (toL s) = (0, 0, 13)) := by show _ = _; rw [hst.out, if_pos (.inl ⟨hd0, hk0⟩)]
                clear hst hg hd0
                go_wp2
                go_ret3
                exact HR.out _ hfin.out _ _ ⟨rfl, rfl⟩
              · have hk0i : ¬ (0 : Int) < (k : Int) := by omega
                have hfin : Hid (getI (toL s) = (a + p, k + 1, 0)) := by show _ = _; rw [hst.out, if_neg (by omega)]
                clear hst hg hd0
                go_wp2
                go_ret3
                exact HR.out _ hfin.out _ _ ⟨rfl, rfl⟩
            · have hd0i : ((d : Int) == 0) = false := by rw [beq_eq_false_iff_ne]; omega
              have hfin : Hid (getI (toL s) = (a + p, k + 1, 0)) := by show _ = _; rw [hst.out, if_neg (by omega)]
              clear hst hg hd0
              go_wp2
              go_ret3
              exact HR.out _ hfin.out _ _ ⟨rfl, rfl⟩
        · obtain ⟨p, hp⟩ : ∃ p, (d - 128) * b = p := ⟨_, rfl⟩
          have hpb : p + b ≤ 128 * b := by
            have : (d - 128 + 1) * b ≤ 128 * b := Nat.mul_le_mul_right _ (by omega)
            rw [Nat.add_mul, hp] at this; omega
          have hpi : ((d : Int) - 128) * (b : Int) = (p : Int) := by
            rw [← hp, Int.natCast_mul, Int.ofNat_sub (by omega)]; rfl
          have h128i : (128 : Int) ≤ (d : Int) := by omega
          rw [hp, if_neg h128] at hst
          clear hp
          go_wp2
          go_round
          case rel => exact ⟨k + 1, a + p, b * 128, by omega, by go_num, by go_num, by go_num, by omega, by omega, by show _ = _; rw [Nat.mul_comm]; exact hbn.out, by omega, by show _ = _; rw [hst.out, show 6 - (k + 1) = 5 - k by omega]⟩
          case measure => simp [intOf]; omega
      · have hsz' : (s.size : Int) ≤ (k : Int) := by omega
        have hfin : Hid (getI (toL s) = (0, 0, 12)) := by
          show _ = _
          rw [hg.out, hf.out, List.drop_of_length_le (by rw [← size_toL]; omega), gi]
        clear hg
        go_wp2
        go_ret3
        exact HR.out _ hfin.out _ _ ⟨rfl, rfl⟩
    · have hfin : Hid (getI (toL s) = (0, 0, 13)) := by
        show _ = _
        rw [hg.out, show 6 - k = 0 by omega, gi]
      clear hg
      go_wp2
      go_ret3
      exact HR.out _ hfin.out _ _ ⟨rfl, rfl⟩
set_option maxRecDepth 100000 in
set_option maxHeartbeats 2000000 in
theorem refGetInt_any (s : ByteArray) (w : World) : Calls Tryd.prog 58 #[.string s] w (RetI (getI (toL s)) w) := by
  have HR : Hid (∀ r, getI (toL s) = r → ∀ e w', RetI r w e w' → RetI (getI (toL s)) w e w') := fun r h e w' hh => by rw [h]; exact hh
  have H0 : Hid (getI (toL s) = gi 6 0 0 1 ((toL s).drop 0)) := rfl
  go_enter Tryd.func58, Tryd.ntmps58
  go_wp2
  go_loop [5, 6, 7] (fun n u i => ∃ k a b : Nat, k ≤ 6 ∧ k ≤ s.size ∧ i = .int .i64 k ∧ n = .int .i64 a ∧ u = .int .i64 b ∧ 1 ≤ b ∧ b ≤ 128 ^ 6 ∧ Hid (b = 128 ^ k) ∧ a < b ∧ Hid (getI (toL s) = gi (6 - k) k a b ((toL s).drop k))) (fun _ _ i => 6 - (intOf i).toNat)
  case atStart => exact ⟨0, 0, 1, by omega, by omega, rfl, rfl, rfl, by omega, by omega, rfl, by omega, H0.out⟩
  case round =>
    obtain ⟨k, a, b, hk, hks, rfl, rfl, rfl, hb1, hb2, hb, hab, hg⟩ := hrel
    by_cases hlt : k < 6
    · have hf : Hid (6 - k = 5 - k + 1) := by show _ = _; omega
      by_cases hsz : k < s.size
      · have hsz' : ((k : Int) == (s.size : Int)) = false := by rw [beq_eq_false_iff_ne]; omega
        have hbn : Hid (128 * b = 128 ^ (k + 1)) := by show _ = _; rw [hb.out, Nat.pow_succ, Nat.mul_comm]
        have hbp : 128 * b ≤ 128 ^ 6 := by rw [hbn.out]; exact Nat.pow_le_pow_right (by omega) (by omega)
        have hst : Hid (getI (toL s) = if s[k].toNat < 128 then (if (s[k].toNat = 0 ∧ 0 < k) ∨ 1099511627776 < a + s[k].toNat * b then (0, 0, 13) else (a + s[k].toNat * b, k + 1, 0)) else gi (5 - k) (k + 1) (a + (s[k].toNat - 128) * b) (b * 128) ((toL s).drop (k + 1))) := by
          show _ = _
          rw [hg.out, hf.out, drop_byte hsz, gi]
        have hd : s[k].toNat < 256 := s[k].toNat_lt
        generalize hdd : s[k].toNat = d at *
        have hdi : (s[k].toNat : Int) = (d : Int) := by rw [hdd]
        clear hdd
        by_cases h128 : d < 128
        · obtain ⟨p, hp⟩ : ∃ p, d * b = p := ⟨_, rfl⟩
          have hpb : p ≤ 128 * b := by rw [← hp]; exact Nat.mul_le_mul_right _ (by omega)
          have hpi : (b : Int) * (d : Int) = (p : Int) := by rw [← hp, Int.natCast_mul, Int.mul_comm]
          have hmd : (d : Int) % 128 = (d : Int) := by omega
          have h128i : (d : Int) < 128 := by omega
          rw [hp, if_pos h128] at hst
          clear hp
          by_cases hmx : 1099511627776 < a + p
          · have hmxi : (1099511627776 : Int) < (a : Int) + (p : Int) := by omega
            have hfin : Hid (getI (toL s) = (0, 0, 13)) := by show _ = _; rw [hst.out, if_pos (.inr hmx)]
            clear hst hg
            by_cases hd0 : d = 0
            · have hd0i : ((d : Int) == 0) = true := by rw [beq_iff_eq]; omega
              clear hd0
              by_cases hk0 : (0 : Int) < (k : Int)
              all_goals
                go_wp2
                go_ret3
                exact HR.out _ hfin.out _ _ ⟨rfl, rfl⟩
            · have hd0i : ((d : Int) == 0) = false := by rw [beq_eq_false_iff_ne]; omega
              clear hd0
              go_wp2
              go_ret3
              exact HR.out _ hfin.out _ _ ⟨rfl, rfl⟩
          · have hmxi : ¬ (1099511627776 : Int) < (a : Int) + (p : Int) := by omega
            by_cases hd0 : d = 0
            · have hd0i : ((d : Int) == 0) = true := by rw [beq_iff_eq]; omega
              by_cases hk0 : 0 < k
              · have hk0i : (0 : Int) < (k : Int) := by omega
                have hfin : Hid (getI (toL s) = (0, 0, 13)) := by show _ = _; rw [hst.out, if_pos (.inl ⟨hd0, hk0⟩)]
                clear hst hg hd0
                go_wp2
                go_ret3
                exact HR.out _ hfin.out _ _ ⟨rfl, rfl⟩
              · have hk0i : ¬ (0 : Int) < (k : Int) := by omega
                have hfin : Hid (getI (toL s) = (a + p, k + 1, 0)) := by show _ = _; rw [hst.out, if_neg (by omega)]
                clear hst hg hd0
                go_wp2
                go_ret3
                exact HR.out _ hfin.out _ _ ⟨rfl, rfl⟩
            · have hd0i : ((d : Int) == 0) = false := by rw [beq_eq_false_iff_ne]; omega
              have hfin : Hid (getI (toL s) = (a + p, k + 1, 0)) := by show _ = _; rw [hst.out, if_neg (by omega)]
              clear hst hg hd0
              by_cases hk0 : (0 : Int) < (k : Int)
              all_goals
                go_wp2
                go_ret3
                exact HR.out _ hfin.out _ _ ⟨rfl, rfl⟩
        · obtain ⟨p, hp⟩ : ∃ p, (d - 128) * b = p := ⟨_, rfl⟩
          have hpb : p + b ≤ 128 * b := by
            have : (d - 128 + 1) * b ≤ 128 * b := Nat.mul_le_mul_right _ (by omega)
            rw [Nat.add_mul, hp] at this; omega
          have hpi : (b : Int) * ((d : Int) - 128) = (p : Int) := by
            rw [← hp, Int.natCast_mul, Int.ofNat_sub (by omega), Int.mul_comm]; rfl
          have hmd : (d : Int) % 128 = (d : Int) - 128 := by omega
          have h128i : ¬ (d : Int) < 128 := by omega
          rw [hp, if_neg h128] at hst
          clear hp
          go_wp2
          go_round
          case rel => exact ⟨k + 1, a + p, b * 128, by omega, by omega, by go_num, by go_num, by go_num, by omega, by omega, by show _ = _; rw [Nat.mul_comm]; exact hbn.out, by omega, by show _ = _; rw [hst.out, show 6 - (k + 1) = 5 - k by omega]⟩
          case measure => simp [intOf]; omega
      · have hsz' : ((k : Int) == (s.size : Int)) = true := by rw [beq_iff_eq]; omega
        have hfin : Hid (getI (toL s) = (0, 0, 12)) := by
          show _ = _
          rw [hg.out, hf.out, List.drop_of_length_le (by rw [← size_toL]; omega), gi]
        clear hg
        go_wp2
        go_ret3
        exact HR.out _ hfin.out _ _ ⟨rfl, rfl⟩
    · have hfin : Hid (getI (toL s) = (0, 0, 13)) := by
        show _ = _
        rw [hg.out, show 6 - k = 0 by omega, gi]
      clear hg
      go_wp2
      go_ret3
      exact HR.out _ hfin.out _ _ ⟨rfl, rfl⟩

def RetT (r : Bytes × Nat × Int) (w : World) (e : Ending) (w' : World) : Prop := e = .returned (.tuple #[.string (ofL r.1), .int .i64 r.2.1, .int .i64 r.2.2]) ∧ w = w'
theorem extract_ofL (s : ByteArray) (a n : Nat) : s.extract a (a + n) = ofL (((toL s).drop a).take n) := by
  apply ByteArray.ext
  apply Array.toList_inj.1
  show (s.extract a (a + n)).data.toList = ((toL s).drop a).take n
  rw [extract_list, Nat.add_sub_cancel_left]; rfl

set_option maxRecDepth 100000 in
set_option maxHeartbeats 2000000 in
theorem getText_any (s : ByteArray) (hs : s.size ≤ maxLen) (w : World) : Calls Tryd.prog 51 #[.string s] w (RetT (getT (toL s)) w) := by
  unfold maxLen at hs
  have HR : Hid (∀ r, getT (toL s) = r → ∀ e w', RetT r w e w' → RetT (getT (toL s)) w e w') := fun r h e w' hh => by rw [h]; exact hh
  have HD : Hid (getT (toL s) = if (getI (toL s)).2.2 ≠ 0 then ([], 0, (getI (toL s)).2.2) else if 65536 < (getI (toL s)).1 then ([], 0, 13) else if (toL s).length < (getI (toL s)).2.1 + (getI (toL s)).1 then ([], 0, 12) else (((toL s).drop (getI (toL s)).2.1).take (getI (toL s)).1, (getI (toL s)).2.1 + (getI (toL s)).1, 0)) := rfl
  rw [← size_toL] at HD
  have hle := getI_le (toL s)
  rw [← size_toL] at hle
  have hmx := getI_max (toL s)
  go_enter Tryd.func51, Tryd.ntmps51
  go_wp2_with fail
  refine (getInt_any s _).mono ?_
  generalize getI (toL s) = r at *
  obtain ⟨n, k, e⟩ := r
  rintro e' w' ⟨rfl, rfl⟩
  simp only at hle hmx HD ⊢
  by_cases he : e = 0
  · subst he
    by_cases hn : 65536 < n
    · have hni : (65536 : Int) < (n : Int) := by omega
      have hfin : Hid (getT (toL s) = ([], 0, 13)) := by show _ = _; rw [HD.out, if_neg (by simp), if_pos hn]
      clear HD
      go_wp2
      go_ret3
      exact HR.out _ hfin.out _ _ ⟨rfl, rfl⟩
    · have hni : ¬ (65536 : Int) < (n : Int) := by omega
      by_cases hl : s.size < k + n
      · have hli : (s.size : Int) - (k : Int) < (n : Int) := by omega
        have hfin : Hid (getT (toL s) = ([], 0, 12)) := by show _ = _; rw [HD.out, if_neg (by simp), if_neg hn, if_pos hl]
        clear HD
        go_wp2
        go_ret3
        exact HR.out _ hfin.out _ _ ⟨rfl, rfl⟩
      · have hli : ¬ (s.size : Int) - (k : Int) < (n : Int) := by omega
        have hfin : Hid (getT (toL s) = (((toL s).drop k).take n, k + n, 0)) := by show _ = _; rw [HD.out, if_neg (by simp), if_neg hn, if_neg hl]
        have HX := Lib.hid (extract_ofL s k n)
        clear HD
        go_wp2
        go_ret3
        exact HR.out _ hfin.out _ _ ⟨by rw [← HX.out]; rfl, rfl⟩
  · have hne : (e != 0) = true := by rw [bne_iff_ne]; exact he
    have hfin : Hid (getT (toL s) = ([], 0, e)) := by show _ = _; rw [HD.out, if_pos he]
    clear HD he
    go_wp2
    go_ret3
    exact HR.out _ hfin.out _ _ ⟨rfl, rfl⟩
set_option maxRecDepth 100000 in
set_option maxHeartbeats 2000000 in
theorem refGetText_any (s : ByteArray) (hs : s.size ≤ maxLen) (w : World) : Calls Tryd.prog 59 #[.string s] w (RetT (getT (toL s)) w) := by
  unfold maxLen at hs
  have HR : Hid (∀ r, getT (toL s) = r → ∀ e w', RetT r w e w' → RetT (getT (toL s)) w e w') := fun r h e w' hh => by rw [h]; exact hh
  have HD : Hid (getT (toL s) = if (getI (toL s)).2.2 ≠ 0 then ([], 0, (getI (toL s)).2.2) else if 65536 < (getI (toL s)).1 then ([], 0, 13) else if (toL s).length < (getI (toL s)).2.1 + (getI (toL s)).1 then ([], 0, 12) else (((toL s).drop (getI (toL s)).2.1).take (getI (toL s)).1, (getI (toL s)).2.1 + (getI (toL s)).1, 0)) := rfl
  rw [← size_toL] at HD
  have hle := getI_le (toL s)
  rw [← size_toL] at hle
  have hmx := getI_max (toL s)
  go_enter Tryd.func59, Tryd.ntmps59
  go_wp2_with fail
  refine (refGetInt_any s _).mono ?_
  generalize getI (toL s) = r at *
  obtain ⟨n, k, e⟩ := r
  rintro e' w' ⟨rfl, rfl⟩
  simp only at hle hmx HD ⊢
  by_cases he : e = 0
  · subst he
    by_cases hn : 65536 < n
    · have hni : (65536 : Int) < (n : Int) := by omega
      have hfin : Hid (getT (toL s) = ([], 0, 13)) := by show _ = _; rw [HD.out, if_neg (by simp), if_pos hn]
      clear HD
      go_wp2
      go_ret3
      exact HR.out _ hfin.out _ _ ⟨rfl, rfl⟩
    · have hni : ¬ (65536 : Int) < (n : Int) := by omega
      by_cases hl : s.size < k + n
      · have hli : (s.size : Int) - (k : Int) < (n : Int) := by omega
        have hfin : Hid (getT (toL s) = ([], 0, 12)) := by show _ = _; rw [HD.out, if_neg (by simp), if_neg hn, if_pos hl]
        clear HD
        go_wp2
        go_ret3
        exact HR.out _ hfin.out _ _ ⟨rfl, rfl⟩
      · have hli : ¬ (s.size : Int) - (k : Int) < (n : Int) := by omega
        have hfin : Hid (getT (toL s) = (((toL s).drop k).take n, k + n, 0)) := by show _ = _; rw [HD.out, if_neg (by simp), if_neg hn, if_neg hl]
        have HX := Lib.hid (extract_ofL s k n)
        clear HD
        go_wp2
        go_ret3
        exact HR.out _ hfin.out _ _ ⟨by rw [← HX.out]; rfl, rfl⟩
  · have hne : (e != 0) = true := by rw [bne_iff_ne]; exact he
    have hfin : Hid (getT (toL s) = ([], 0, e)) := by show _ = _; rw [HD.out, if_pos he]
    clear HD he
    go_wp2
    go_ret3
    exact HR.out _ hfin.out _ _ ⟨rfl, rfl⟩
end Go.Proofs.YtikmiabncbhioaaDoor
