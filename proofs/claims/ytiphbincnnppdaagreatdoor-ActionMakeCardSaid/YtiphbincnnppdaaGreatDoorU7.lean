/-
  Lemmas: The reference's Label. cordwoodref41.begins and Named: whether a string is the name of a file, as the reference says it. A slice of bytes that may be appended to, whatever mark its block bears behind its last cell ([]byte(s) too): what it holds, and append. cordwoodref01.put, PutInt and PutText. cordwoodref41.CheckOutput, number and text. cordwoodref41.EncodeOutput.
-/
import Derived.Deep.AppendSrc
import Derived.Deep.Upon
import Derived.Lib.ConvBytes
import Derived.Laws.IdiomStrings
import Derived.Laws.BytesArg
import Derived.Test.YtiphbincnnppdaaGreatDoorU6

namespace Go.Proofs.YtiphbincnnppdaaGreatDoor
open Go.RowKit Go.Shelf

set_option maxHeartbeats 400000 in
theorem rletter_any (c : Int) (w : World) : Calls Tryz.prog 88 #[.int .u8 c] w fun e w' => e = .returned (.bool (ltrI c)) ∧ w = w' := by
  go_enter Tryz.func88, Tryz.ntmps88
  go_wp2
  all_goals (go_ret; refine ⟨ret_bool ?_, rfl⟩; rw [Bool.eq_iff_iff]; simp [ltrI]; try omega)
set_option maxHeartbeats 400000 in
theorem rdigit_any (c : Int) (w : World) : Calls Tryz.prog 89 #[.int .u8 c] w fun e w' => e = .returned (.bool (dgtI c)) ∧ w = w' := by
  go_enter Tryz.func89, Tryz.ntmps89
  go_wp2
  all_goals (go_ret; refine ⟨ret_bool ?_, rfl⟩; rw [Bool.eq_iff_iff]; simp [dgtI]; try omega)

/-- the index of the first slash, or the length -/
def slashL : List UInt8 → Nat
  | [] => 0
  | c :: r => if c = 47 then 0 else slashL r + 1
theorem slashL_le : ∀ l : List UInt8, slashL l ≤ l.length
  | [] => Nat.le_refl _
  | c :: r => by simp only [slashL]; split; simp; have := slashL_le r; simp; omega
theorem slashL_at : ∀ {l : List UInt8} {k : Nat}, (∀ j, j < k → l[j]? ≠ some 47) → k ≤ l.length → (k = l.length ∨ l[k]? = some 47) → slashL l = k
  | [], k, _, h, _ => by simp at h; simp [slashL, h]
  | c :: r, 0, _, _, h3 => by
    rcases h3 with h3 | h3
    · simp at h3
    · simp at h3; simp [slashL, h3]
  | c :: r, k + 1, h1, h2, h3 => by
    have hc : c ≠ 47 := fun e => h1 0 (by omega) (by simp [e])
    simp only [slashL, if_neg hc]
    rw [slashL_at (k := k) (fun j hj => by have := h1 (j + 1) (by omega); simpa using this) (by simp at h2; omega) (by
      rcases h3 with h3 | h3
      · left; simp at h3; omega
      · right; simpa using h3)]
theorem splitS_slash : ∀ (l : List UInt8), splitS l = if slashL l < l.length then l.take (slashL l) :: splitS (l.drop (slashL l + 1)) else [l]
  | [] => rfl
  | c :: r => by
    by_cases hc : c = 47
    · subst hc; simp [splitS, slashL]
    · have ih := splitS_slash r
      simp only [splitS, slashL, if_neg hc]
      rw [ih]
      by_cases h : slashL r < r.length
      · rw [if_pos h, if_pos (by simp; exact h)]; simp
      · rw [if_neg h, if_neg (by simp; omega)]

set_option maxHeartbeats 1000000 in
theorem rslash_any (s : ByteArray) (w : World) (hs : s.size ≤ maxLen) :
    Calls Tryz.prog 66 #[.string s] w fun e w' => e = .returned (.int .i64 (slashL (bl s) : Nat)) ∧ w = w' := by
  unfold maxLen at hs
  have HL := Lib.hid (size_len s)
  go_enter Tryz.func66, Tryz.ntmps66
  go_wp2
  go_loop [3] (fun i => ∃ k : Nat, k ≤ s.size ∧ i = .int .i64 k ∧ Hid (∀ j, j < k → (bl s)[j]? ≠ some 47)) (fun i => s.size - (intOf i).toNat)
  case atStart => exact ⟨0, Nat.zero_le _, rfl, fun j h => absurd h (by omega)⟩
  case round =>
    obtain ⟨k, hk, rfl, hN⟩ := hrel
    by_cases hlt : k < s.size
    · have hg := Lib.hid (get_data s k hlt)
      have hlz : (k : Int) < (s.size : Int) := by omega
      by_cases h47 : s[k] = 47
      · have t1 : (((s[k].toNat : Nat) : Int) != 47) = false := by simp [h47]
        have HF : Hid (slashL (bl s) = k) := slashL_at hN.out (by unfold bl; rw [← HL.out]; exact hk) (.inr (by show s.data.toList[k]? = _; rw [hg.out, h47]))
        clear h47
        go_wp2
        go_ret
        exact ⟨by rw [HF.out]; rfl, rfl⟩
      · have t1 : (((s[k].toNat : Nat) : Int) != 47) = true := by
          rw [bne_iff_ne]; intro e
          apply h47
          apply UInt8.toNat_inj.1
          show s[k].toNat = 47
          omega
        have HF : Hid (∀ j, j < k + 1 → (bl s)[j]? ≠ some 47) := fun j hj => by
          by_cases e : j = k
          · subst e; show s.data.toList[j]? ≠ _; rw [hg.out]; intro e2; exact h47 (Option.some.inj e2)
          · exact hN.out j (by omega)
        clear h47
        go_wp2
        go_round
        case rel => exact ⟨k + 1, hlt, by go_num, HF.out⟩
        case measure => simp [intOf]; omega
    · have hlz : ¬ (k : Int) < (s.size : Int) := by omega
      have HF : Hid (slashL (bl s) = k) := slashL_at hN.out (by unfold bl; rw [← HL.out]; exact hk) (.inl (by unfold bl; rw [← HL.out]; omega))
      go_wp2
      go_ret
      exact ⟨by rw [HF.out]; rfl, rfl⟩

set_option maxHeartbeats 2000000 in
theorem rword_any (s : ByteArray) (w : World) (hs : s.size ≤ maxLen) :
    Calls Tryz.prog 67 #[.string s, .int .i64 20] w fun e w' => e = .returned (.bool (partB s)) ∧ w = w' := by
  unfold maxLen at hs
  have HL := Lib.hid (size_len s)
  by_cases c0 : (s.size : Int) < 1
  · have hv : Hid (partB s = false) := by
      show _ = _
      have : bl s = [] := List.eq_nil_of_length_eq_zero (by have := HL.out; unfold bl; omega)
      unfold partB partL; rw [this]; rfl
    go_enter Tryz.func67, Tryz.ntmps67
    go_wp2
    go_ret
    exact ⟨ret_bool hv.out.symm, rfl⟩
  by_cases c1 : 20 < (s.size : Int)
  · have hv := Lib.hid (part_long s c1)
    go_enter Tryz.func67, Tryz.ntmps67
    go_wp2
    go_ret
    exact ⟨ret_bool hv.out.symm, rfl⟩
  have HV : Hid (partB s = wordL (bl s)) := by
    show _ = _
    have := HL.out
    unfold partB partL; rw [decide_eq_true (by unfold bl; omega), Bool.true_and]
  have h0s : 0 < s.size := by omega
  have hg0 := Lib.hid (get_data s 0 h0s)
  cases hl0 : ltrI (s[0].toNat : Int) with
  | false =>
    have hv : Hid (partB s = false) := by
      show _ = _
      rw [HV.out]; exact word_bad hg0.out (by unfold okC ltrB; rw [hl0]; simp)
    have HLI := Lib.hid hl0
    clear hl0
    go_enter Tryz.func67, Tryz.ntmps67
    go_wp2_with (go_at_call 88; refine (rletter_any _ _).mono ?_; rintro e w' ⟨rfl, rfl⟩; rw [HLI.out])
    go_ret
    exact ⟨ret_bool hv.out.symm, rfl⟩
  | true =>
    have HL0 := Lib.hid hl0
    clear hl0
    go_enter Tryz.func67, Tryz.ntmps67
    go_wp2_with (go_at_call 88; refine (rletter_any _ _).mono ?_; rintro e w' ⟨rfl, rfl⟩; rw [HL0.out])
    go_loop [5] (fun i => ∃ k : Nat, k ≤ s.size ∧ i = .int .i64 k ∧ Hid (OkTo (bl s) k)) (fun i => s.size - (intOf i).toNat)
    case atStart => exact ⟨0, Nat.zero_le _, rfl, fun j c h => absurd h (by omega)⟩
    case round =>
      obtain ⟨k, hk, rfl, hO⟩ := hrel
      by_cases hlt : k < s.size
      · have hg := Lib.hid (get_data s k hlt)
        have hlz : (k : Int) < (s.size : Int) := by omega
        cases hl : ltrI (s[k].toNat : Int) with
        | true =>
          have HO2 : Hid (OkTo (bl s) (k + 1)) := hO.out.step hg.out (by unfold okC ltrB; rw [hl]; rfl)
          have HLI := Lib.hid hl
          clear hl
          go_wp2_with (go_at_call 88; refine (rletter_any _ _).mono ?_; rintro e w' ⟨rfl, rfl⟩; rw [HLI.out])
          go_round
          case rel => exact ⟨k + 1, hlt, by go_num, HO2.out⟩
          case measure => simp [intOf]; omega
        | false =>
          have hk0 : k ≠ 0 := fun e => by subst e; rw [HL0.out] at hl; cases hl
          have HLI := Lib.hid hl
          cases hd : dgtI (s[k].toNat : Int) with
          | true =>
            have HO2 : Hid (OkTo (bl s) (k + 1)) := hO.out.step hg.out (by unfold okC ltrB dgtB; rw [hl, hd]; simp [hk0])
            have HDI := Lib.hid hd
            clear hl hd
            go_wp2_with (first
              | (go_at_call 88; refine (rletter_any _ _).mono ?_; rintro e w' ⟨rfl, rfl⟩; rw [HLI.out])
              | (go_at_call 89; refine (rdigit_any _ _).mono ?_; rintro e w' ⟨rfl, rfl⟩; rw [HDI.out]))
            go_round
            case rel => exact ⟨k + 1, hlt, by go_num, HO2.out⟩
            case measure => simp [intOf]; omega
          | false =>
            have hF : Hid (partB s = false) := by
              show _ = _
              rw [HV.out]; exact word_bad hg.out (by unfold okC ltrB dgtB; rw [hl, hd]; simp)
            have HDI := Lib.hid hd
            clear hl hd
            go_wp2_with (first
              | (go_at_call 88; refine (rletter_any _ _).mono ?_; rintro e w' ⟨rfl, rfl⟩; rw [HLI.out])
              | (go_at_call 89; refine (rdigit_any _ _).mono ?_; rintro e w' ⟨rfl, rfl⟩; rw [HDI.out]))
            go_ret
            exact ⟨ret_bool hF.out.symm, rfl⟩
      · have hlz : ¬ (k : Int) < (s.size : Int) := by omega
        have hF : Hid (partB s = true) := by
          show _ = _
          rw [HV.out, wordL_iff]
          have hkl : k = (bl s).length := by have := HL.out; unfold bl; omega
          refine ⟨fun e => by rw [e] at hkl; simp at hkl; omega, ?_⟩
          have h1 := hO.out
          rwa [hkl] at h1
        go_wp2
        go_ret
        exact ⟨ret_bool hF.out.symm, rfl⟩

def szOf : Value → Nat
  | .string t => t.size
  | _ => 0
set_option maxHeartbeats 1000000 in
theorem rlabel_any (s : ByteArray) (w : World) (hs : s.size ≤ maxLen) :
    Calls Tryz.prog 38 #[.string s] w fun e w' => e = .returned (.bool (labB s)) ∧ w = w' := by
  unfold maxLen at hs
  have HL := Lib.hid (size_len s)
  by_cases c1 : 90 < (s.size : Int)
  · have hv : Hid (labB s = false) := by
      show _ = _
      have := HL.out
      unfold labB labL bl; rw [decide_eq_false (by omega), Bool.false_and]
    go_enter Tryz.func38, Tryz.ntmps38
    go_wp2_with fail
    go_ret
    exact ⟨ret_bool hv.out.symm, rfl⟩
  have HN : Hid (labB s = (splitS (bl s)).all partL) := by
    show _ = _
    have := HL.out
    unfold labB labL; rw [decide_eq_true (by unfold bl; omega), Bool.true_and]
  have hs1 : s.size ≤ 90 := by omega
  go_enter Tryz.func38, Tryz.ntmps38
  go_wp2_with (go_at_call 66; refine (rslash_any _ _ (by unfold maxLen; omega)).mono ?_; rintro e w' ⟨rfl, rfl⟩)
  go_loop [0, 3] (fun a b => ∃ (t : ByteArray), t.size ≤ 90 ∧ a = .string t ∧ b = .int .i64 (slashL (bl t) : Nat) ∧ Hid ((splitS (bl s)).all partL = (splitS (bl t)).all partL)) (fun a _ => szOf a)
  case atStart => exact ⟨s, hs1, rfl, rfl, rfl⟩
  case round =>
    obtain ⟨t, ht, rfl, rfl, hA⟩ := hrel
    have hsl := slashL_le (bl t)
    have htl := size_len t
    have htl2 : (bl t).length = t.size := htl.symm
    obtain ⟨k, hk⟩ : ∃ k, slashL (bl t) = k := ⟨_, rfl⟩
    have HSP := Lib.hid (splitS_slash (bl t))
    rw [hk] at HSP hsl ⊢
    have HK := Lib.hid hk
    clear hk htl
    rw [htl2] at hsl HSP
    have HEX : Hid (bl (t.extract 0 k) = (bl t).take k) := by show _ = _; unfold bl; rw [extract_list]; simp
    have HEY : Hid (bl (t.extract (k + 1) t.size) = (bl t).drop (k + 1)) := by
      show _ = _
      unfold bl; rw [extract_list, List.take_of_length_le (by rw [List.length_drop]; unfold bl at htl2; omega)]
    by_cases hlt : k < t.size
    · have hlz : (k : Int) < (t.size : Int) := by omega
      have HSP2 : Hid (splitS (bl t) = (bl t).take k :: splitS ((bl t).drop (k + 1))) := by show _ = _; rw [HSP.out, if_pos hlt]
      cases hp : partB (t.extract 0 k) with
      | false =>
        have hF : Hid (labB s = false) := by
          show _ = _
          rw [HN.out, hA.out, HSP2.out, List.all_cons, ← HEX.out]
          show (partB (t.extract 0 k) && _) = false
          rw [hp, Bool.false_and]
        have HP := Lib.hid hp
        clear hp
        go_wp2_with (go_at_call 67; refine (rword_any _ _ (by rw [ByteArray.size_extract]; unfold maxLen; omega)).mono ?_; rintro e w' ⟨rfl, rfl⟩; rw [HP.out])
        go_ret
        exact ⟨ret_bool hF.out.symm, rfl⟩
      | true =>
        have HA2 : Hid ((splitS (bl s)).all partL = (splitS (bl (t.extract (k + 1) t.size))).all partL) := by
          show _ = _
          rw [hA.out, HSP2.out, List.all_cons, ← HEX.out, HEY.out]
          show (partB (t.extract 0 k) && _) = _
          rw [hp, Bool.true_and]
        have hz2 : (t.extract (k + 1) t.size).size = t.size - (k + 1) := by rw [ByteArray.size_extract]; omega
        have HZ2 := Lib.hid hz2
        have HP := Lib.hid hp
        clear hp hz2
        go_wp2_with (first
          | (go_at_call 67; refine (rword_any _ _ (by rw [ByteArray.size_extract]; unfold maxLen; omega)).mono ?_; rintro e w' ⟨rfl, rfl⟩; rw [HP.out])
          | (go_at_call 66; refine (rslash_any _ _ (by rw [ByteArray.size_extract]; unfold maxLen; omega)).mono ?_; rintro e w' ⟨rfl, rfl⟩))
        go_round
        case rel => exact ⟨_, by rw [HZ2.out]; omega, rfl, rfl, HA2.out⟩
        case measure => show (t.extract (k + 1) t.size).size < t.size; rw [HZ2.out]; omega
    · have hlz : ¬ (k : Int) < (t.size : Int) := by omega
      have hF : Hid (labB s = partB t) := by
        show _ = _
        rw [HN.out, hA.out, HSP.out, if_neg hlt]; simp [partB]
      go_wp2_with (go_at_call 67; refine (rword_any _ _ (by unfold maxLen; omega)).mono ?_; rintro e w' ⟨rfl, rfl⟩)
      go_ret
      exact ⟨ret_bool hF.out.symm, rfl⟩
end Go.Proofs.YtiphbincnnppdaaGreatDoor

namespace Go.Proofs.YtiphbincnnppdaaGreatDoor
open Go.RowKit

def BegEnd (s p : ByteArray) (w : World) (e : Ending) (w' : World) : Prop :=
  w = w' ∧ ((∃ r, bl s = bl p ++ bl r ∧ r.size ≤ s.size ∧ e = .returned (.tuple #[.string r, .bool true])) ∨ ((∀ r, bl s ≠ bl p ++ r) ∧ e = .returned (.tuple #[.string ⟨#[]⟩, .bool false])))
set_option maxRecDepth 100000 in
set_option maxHeartbeats 1000000 in
theorem begins_any (s p : ByteArray) (w : World) (hs : s.size ≤ maxLen) : Calls Tryz.prog 68 #[.string s, .string p] w (BegEnd s p w) := by
  have hs' : s.size ≤ 9223372036854775807 := by unfold maxLen at hs; exact hs
  by_cases hl : p.size ≤ s.size
  · have hlz : (p.size : Int) ≤ (s.size : Int) := by omega
    have hse := str_dec (s.extract 0 p.size) p
    have e1 : bl (s.extract 0 p.size) = (bl s).take p.size := by unfold bl; rw [extract_list]; simp
    have e2 : bl (s.extract p.size s.size) = (bl s).drop p.size := by unfold bl; rw [extract_list, size_len]; rw [List.take_of_length_le (by simp)]
    by_cases e : s.extract 0 p.size = p
    · rw [decide_eq_true e] at hse
      have HR : Hid (bl s = bl p ++ bl (s.extract p.size s.size) ∧ (s.extract p.size s.size).size ≤ s.size) := by
        refine ⟨?_, ?_⟩
        · rw [e2]
          have : bl p = (bl s).take p.size := by rw [← e1, e]
          rw [this, List.take_append_drop]
        · rw [size_len, size_len]
          show (bl (s.extract p.size s.size)).length ≤ (bl s).length
          rw [e2]; simp
      clear e e1 e2
      go_enter Tryz.func68, Tryz.ntmps68
      go_wp2
      go_ret2
      exact ⟨rfl, .inl ⟨_, HR.out.1, HR.out.2, rfl⟩⟩
    · rw [decide_eq_false e] at hse
      have HR : Hid (∀ r, bl s ≠ bl p ++ r) := fun r h => by
        apply e
        apply data_inj
        show bl (s.extract 0 p.size) = bl p
        rw [e1, h, size_len]
        show List.take (bl p).length (bl p ++ r) = bl p
        simp
      clear e e1 e2
      go_enter Tryz.func68, Tryz.ntmps68
      go_wp2
      go_ret2
      exact ⟨rfl, .inr ⟨HR.out, rfl⟩⟩
  · have hlz : ¬ (p.size : Int) ≤ (s.size : Int) := by omega
    have HR : Hid (∀ r, bl s ≠ bl p ++ r) := fun r h => by
      have := congrArg List.length h
      rw [List.length_append] at this
      have a := size_len s; have b := size_len p
      unfold bl at this
      omega
    go_enter Tryz.func68, Tryz.ntmps68
    go_wp2
    go_ret2
    exact ⟨rfl, .inr ⟨HR.out, rfl⟩⟩

def fwS : List ByteArray := [⟨#[115, 111, 117, 114, 99, 101, 32]⟩, ⟨#[105, 102, 97, 99, 101, 32]⟩, ⟨#[99, 111, 100, 101, 32]⟩, ⟨#[112, 114, 111, 103, 114, 97, 109, 32]⟩, ⟨#[118, 101, 114, 100, 105, 99, 116, 32]⟩]
theorem fwS_eq : fwS.map bl = fwords.map (· ++ [32]) := by decide
theorem fnB_begin {s p r : ByteArray} (hp : p ∈ fwS) (h : bl s = bl p ++ bl r) : fnB s = labB r := by
  have h1 : bl p ∈ fwords.map (· ++ [32]) := by rw [← fwS_eq]; exact List.mem_map_of_mem hp
  obtain ⟨a, ha, e⟩ := List.mem_map.1 h1
  have e2 : bl s = a ++ 32 :: bl r := by rw [h, ← e]; simp
  rw [Bool.eq_iff_iff, fnB_iff]
  constructor
  · rintro ⟨v, hv, q, hq, hl⟩
    obtain ⟨_, h2⟩ := cut_uniq (fwords_no v hv) (fwords_no a ha) (hq.symm.trans e2)
    unfold labB; rw [← h2]; exact hl
  · intro hl; exact ⟨a, ha, bl r, e2, hl⟩
theorem fnB_not {s : ByteArray} (h : ∀ p ∈ fwS, ∀ r, bl s ≠ bl p ++ r) : fnB s = false := by
  rw [Bool.eq_false_iff]
  intro hf
  obtain ⟨v, hv, q, hq, _⟩ := (fnB_iff s).1 hf
  have h1 : v ++ [32] ∈ fwS.map bl := by rw [fwS_eq]; exact List.mem_map.2 ⟨v, hv, rfl⟩
  obtain ⟨p, hp, e⟩ := List.mem_map.1 h1
  exact h p hp q (by rw [e, hq]; simp)
set_option maxRecDepth 100000 in
set_option maxHeartbeats 2000000 in
theorem named_any (s : ByteArray) (w : World) (hs : s.size ≤ maxLen) : Calls Tryz.prog 39 #[.string s] w fun e w' => e = .returned (.bool (fnB s)) ∧ Below w.heap.size w w' := by
  obtain ⟨W, hW⟩ : ∃ W, w.alloc (.cells #[.string ⟨#[115, 111, 117, 114, 99, 101, 32]⟩, .string ⟨#[105, 102, 97, 99, 101, 32]⟩, .string ⟨#[99, 111, 100, 101, 32]⟩, .string ⟨#[112, 114, 111, 103, 114, 97, 109, 32]⟩, .string ⟨#[118, 101, 114, 100, 105, 99, 116, 32]⟩] 9) = W := ⟨_, rfl⟩
  have HB : Hid (Below w.heap.size w W) := by rw [← hW]; exact (Below.refl _ w).alloc (Nat.le_refl _) _
  have HS : Hid (Sl W W.heap.size 1 (some ⟨w.heap.size, 0, none⟩) 5 (strs fwS)) := by rw [← hW]; exact Sl.of_bk (Bk.new w _ _) rfl
  go_enter Tryz.func39, Tryz.ntmps39
  go_wp2
  go_loop [4] (fun i => ∃ k : Nat, k ≤ 5 ∧ i = .int .i64 k ∧ Hid (∀ p ∈ fwS.take k, ∀ r, bl s ≠ bl p ++ r)) (fun i => 5 - (intOf i).toNat)
  case atStart => exact ⟨0, Nat.zero_le _, rfl, fun p hp => by cases hp⟩
  case round =>
    obtain ⟨k, hk, rfl, hF⟩ := hrel
    by_cases hlt : k < 5
    · obtain ⟨bb, off, y, hbe, hbB, ht, y0⟩ := HS.out.str_at hlt
      have hlz : (k : Int) < 5 := by omega
      cases hbe
      rw [Nat.zero_add] at y0
      have HT := Lib.hid ht
      have HBG := Lib.hid (begins_any s y W hs)
      clear ht
      go_wp2_with fail
      refine HBG.out.mono ?_
      rintro e w1 ⟨rfl, ⟨r, h1, h2, rfl⟩ | ⟨h1, rfl⟩⟩
      · have HE := Lib.hid (fnB_begin (List.mem_of_getElem? HT.out) h1)
        have hrs : r.size ≤ maxLen := Nat.le_trans h2 hs
        clear h1
        go_wp2_with fail
        refine (rlabel_any r _ hrs).mono ?_
        rintro e w2 ⟨rfl, rfl⟩
        go_wp2_with fail
        go_ret
        exact ⟨ret_bool HE.out.symm, HB.out⟩
      · have HN : Hid (∀ p ∈ fwS.take (k + 1), ∀ r, bl s ≠ bl p ++ r) := by
          intro p hp
          rw [take_snoc HT.out] at hp
          rcases List.mem_append.1 hp with hp | hp
          · exact hF.out p hp
          · rw [List.mem_singleton.1 hp]; exact h1
        clear h1
        go_wp2_with fail
        go_round
        case rel => exact ⟨k + 1, by omega, by go_num, HN.out⟩
        case measure => simp [intOf]; omega
    · have hlz : ¬ (k : Int) < 5 := by omega
      have HE : Hid (fnB s = false) := fnB_not (by have := hF.out; rw [List.take_of_length_le (by simp [fwS]; omega)] at this; exact this)
      go_wp2_with fail
      go_ret
      exact ⟨ret_bool HE.out.symm, HB.out⟩
end Go.Proofs.YtiphbincnnppdaaGreatDoor

namespace Go.Proofs.YtiphbincnnppdaaGreatDoor
open Go.RowKit

def bc (l : Bytes) : List Value := l.map fun b => Value.int .u8 b.toNat
theorem bc_len (l : Bytes) : (bc l).length = l.length := by simp [bc]
theorem bc_append (l r : Bytes) : bc (l ++ r) = bc l ++ bc r := by simp [bc]

structure Txt (w : World) (base av : Nat) (A : Option Addr) (n c : Nat) (bs : Bytes) : Prop where
  len : bs.length = n
  le : n ≤ c
  max : c ≤ maxLen
  lies : 0 < c → ∃ b off, A = some ⟨b, off, none⟩ ∧ (base ≤ b ∧ b ≠ av) ∧ b < w.heap.size ∧ (∀ j, j < n → w.cell? ⟨b, off + j, none⟩ = (bc bs)[j]?) ∧ (∀ j, j < c → (w.cell? ⟨b, off + j, none⟩).isSome = true ∧ w.frozen? ⟨b, off + j, none⟩ = false)

section
variable {w w' : World} {base av n c : Nat} {A : Option Addr} {bs : Bytes}
theorem Txt.nil (w : World) (base av : Nat) (A : Option Addr) : Txt w base av A 0 0 [] := ⟨rfl, Nat.le_refl _, Nat.zero_le _, fun h => absurd h (by omega)⟩
theorem Txt.keep (h : Txt w base av A n c bs) (hs : w.heap.size ≤ w'.heap.size) (hk : ∀ k, k < w.heap.size → w'.heap[k]? = w.heap[k]?) : Txt w' base av A n c bs :=
  ⟨h.len, h.le, h.max, fun h0 => by
    obtain ⟨b, off, e, hb, hl, hc, hf⟩ := h.lies h0
    have ec : ∀ o, w'.cell? ⟨b, o, none⟩ = w.cell? ⟨b, o, none⟩ := fun o => World.cell?_of_block (a := ⟨b, o, none⟩) (hk b hl)
    have ef : ∀ o, w'.frozen? ⟨b, o, none⟩ = w.frozen? ⟨b, o, none⟩ := fun o => World.frozen?_of_block (a := ⟨b, o, none⟩) (hk b hl)
    exact ⟨b, off, e, hb, by omega, fun j hj => (ec _).trans (hc j hj), fun j hj => ⟨by rw [ec]; exact (hf j hj).1, (ef _).trans (hf j hj).2⟩⟩⟩
theorem Txt.below (h : Txt w base av A n c bs) (hb : Below w.heap.size w w') : Txt w' base av A n c bs := h.keep hb.size fun k hk => hb.block k hk
theorem Txt.lower {base' : Nat} (h : Txt w base av A n c bs) (hb : base' ≤ base) : Txt w base' av A n c bs :=
  ⟨h.len, h.le, h.max, fun h0 => by
    obtain ⟨b, off, e, h1, h2⟩ := h.lies h0
    exact ⟨b, off, e, ⟨by omega, h1.2⟩, h2⟩⟩
theorem Txt.avoid {av' : Nat} (h : Txt w base av A n c bs) (ha : w.heap.size ≤ av') : Txt w base av' A n c bs :=
  ⟨h.len, h.le, h.max, fun h0 => by
    obtain ⟨b, off, e, h1, h2, h3⟩ := h.lies h0
    exact ⟨b, off, e, ⟨h1.1, by omega⟩, h2, h3⟩⟩

theorem setCells_below {B b : Nat} (hb : B ≤ b) : ∀ (vs : List Value) (o : Nat) (w : World), Below B w (w.setCells b o vs)
  | [], _, w => Below.refl _ w
  | v :: vs, o, w => ((Below.refl B w).setCell (p := ⟨b, o, none⟩) hb v).trans (setCells_below hb vs (o + 1) _)
theorem setCells_size (b : Nat) : ∀ (vs : List Value) (o : Nat) (w : World), (w.setCells b o vs).heap.size = w.heap.size
  | [], _, _ => rfl
  | v :: vs, o, w => by
    show ((w.setCell ⟨b, o, none⟩ v).setCells b (o + 1) vs).heap.size = _
    rw [setCells_size b vs]; simp

theorem setCells_other {b k : Nat} (hb : b ≠ k) : ∀ (vs : List Value) (o : Nat) (w : World), (w.setCells b o vs).heap[k]? = w.heap[k]?
  | [], _, _ => rfl
  | v :: vs, o, w => (setCells_other hb vs (o + 1) _).trans (Below.heap_setCell w ⟨b, o, none⟩ v k (fun e => hb e.symm))

variable {P : Program}
theorem Txt.run_append (h : Txt w base av A n c bs) (t tx ty e : TypeId) (i : TypeInfo) (ht : P.underlying t = some (.slice e)) (hi : P.info? e = some i) (hz : i.zero = some (.int .u8 0)) (hsize : i.size = 1) (hby : i.bytes = 1)
    (x : Value) (m : Nat) (ys : Bytes) (hs : Src P 1 tx x m (bc ys) w) (hmax : n + m ≤ 140737488355328) (hbase : base ≤ w.heap.size) (hav : av < w.heap.size) :
    ∃ A' c' w', (Builtin.append_ #[t, tx] ty #[.slice A n c, x]).run P w = .ok (.slice A' (n + m) c') w' ∧ Txt w' base av A' (n + m) c' (bs ++ ys) ∧ Below base w w' ∧ w'.heap[av]? = w.heap[av]? := by
  have hnl := hs.newsLen
  rw [bc_len, Nat.mul_one] at hnl
  have hs' : Src P i.size tx x m (bc ys) w := by rw [hsize]; exact hs
  by_cases hfit : n + m ≤ c
  · rcases Nat.eq_zero_or_pos c with h0 | hc
    · subst h0
      obtain rfl : n = 0 := by omega
      obtain rfl : m = 0 := by omega
      obtain rfl : ys = [] := List.eq_nil_of_length_eq_zero hnl
      exact ⟨A, 0, w, run_append_nothing (P := P) w t tx ty e i ht hi A 0 0 (Nat.le_refl _) x hs', by simpa using h, Below.refl _ _, rfl⟩
    · obtain ⟨b, off, rfl, hb, hl, hcell, hfree⟩ := h.lies hc
      have hsome : ∀ j, j < (bc ys).length → (w.cell? ⟨b, off + n * i.size + j, none⟩).isSome = true := fun j hj => by
        rw [bc_len] at hj
        rw [hsize, Nat.mul_one, Nat.add_assoc]; exact (hfree (n + j) (by omega)).1
      have hrun := run_append_room_src (P := P) w t tx ty e i ht hi b off n c x m (bc ys) hs' hfit hsome (fun j hj => by
        rw [bc_len] at hj
        rw [hsize, Nat.mul_one, Nat.add_assoc]; exact (hfree (n + j) (by omega)).2)
      refine ⟨_, _, _, hrun, ⟨by rw [List.length_append, h.len]; omega, hfit, h.max, fun _ => ⟨b, off, rfl, hb, by rw [setCells_size]; exact hl, fun j hj => ?_, fun j hj => ⟨?_, ?_⟩⟩⟩, setCells_below hb.1 _ _ _, setCells_other hb.2 _ _ _⟩
      · by_cases hj' : j < n
        · rw [World.cell?_setCells_out b _ _ _ _ (fun _ _ => .inl (by show off + j < off + n * i.size; rw [hsize]; omega)), hcell j hj', bc_append, List.getElem?_append_left (by rw [bc_len, h.len]; exact hj')]
        · have := World.cell?_setCells_in b (bc ys) (off + n * i.size) w hsome (j - n) (by rw [bc_len]; omega)
          rw [hsize, Nat.mul_one, show off + n + (j - n) = off + j by omega] at this
          rw [hsize, Nat.mul_one, this, bc_append, List.getElem?_append_right (by rw [bc_len, h.len]; omega), show (bc bs).length = n by rw [bc_len, h.len]]
          exact (List.getElem?_eq_getElem _).symm
      · by_cases hj' : n ≤ j ∧ j < n + m
        · have := World.cell?_setCells_in b (bc ys) (off + n * i.size) w hsome (j - n) (by rw [bc_len]; omega)
          rw [hsize, Nat.mul_one, show off + n + (j - n) = off + j by omega] at this
          rw [hsize, Nat.mul_one, this]; rfl
        · rw [World.cell?_setCells_out b _ _ _ _ (fun _ _ => by show off + j < off + n * i.size ∨ off + n * i.size + (bc ys).length ≤ off + j; rw [hsize, bc_len]; omega)]
          exact (hfree j hj).1
      · rw [World.frozen?_setCells]; exact (hfree j hj).2
  · have hold : (Builtin.firstCells i.size n (.slice A n c)).run P w.drew = .ok (bc bs).toArray w.drew := by
      rw [hsize]
      rcases Nat.eq_zero_or_pos c with h0 | hc
      · subst h0
        obtain rfl : n = 0 := by have := h.le; omega
        obtain rfl : bs = [] := List.eq_nil_of_length_eq_zero h.len
        cases A with
        | none => exact run_firstCells_none w.drew 1 0 0 0
        | some a' => exact run_firstCells_some w.drew 1 0 a' 0 0 [] (by simp) (by intro _ _ h'; simp at h')
      · obtain ⟨b, off, rfl, hb, hl, hcell, hfree⟩ := h.lies hc
        refine run_firstCells_some w.drew 1 n ⟨b, off, none⟩ n c (bc bs) (by rw [bc_len, h.len]; omega) (fun j u hu => ?_)
        rw [Addr.add_lit]
        have hj : j < n := by have := (List.getElem?_eq_some_iff.1 hu).1; rwa [bc_len, h.len] at this
        exact (hcell j hj).trans hu
    have hg : c < n + m := by omega
    have h63 : n + m ≤ maxLen := by unfold maxLen; omega
    have hrun := run_append_grow_src (P := P) w t tx ty e i (.int .u8 0) ht hi hz A n c (bc bs) hold x m (bc ys) hs' hg (by omega) (growslice_fits hg (by rw [hby]; omega))
    have hge := grownCap_ge w (n + m) c e
    have hcm := grownCap_le_maxLen w (n + m) c e h63
    refine ⟨_, _, _, hrun, ⟨by rw [List.length_append, h.len]; omega, hge, hcm, fun _ => ⟨w.heap.size, 0, rfl, ⟨hbase, by omega⟩, ?_, fun j hj => ?_, fun j hj => ⟨?_, ?_⟩⟩⟩, ((Below.refl base w).drew).alloc hbase _, Below.heap_alloc w.drew _ av hav⟩
    · have : (w.drew.alloc (.cells ((bc bs ++ bc ys).toArray ++ Builtin.zeroCells (Value.int .u8 0).cells (grownCap w (n + m) c e - (n + m))) e)).heap.size = w.heap.size + 1 := World.size_alloc _ _
      omega
    · have e1 : (w.drew.alloc (.cells ((bc bs ++ bc ys).toArray ++ Builtin.zeroCells (Value.int .u8 0).cells (grownCap w (n + m) c e - (n + m))) e)).cell? ⟨w.heap.size, j, none⟩ = _ := World.cell?_alloc_new w.drew _ _ j
      rw [Nat.zero_add, e1, Array.getElem?_append_left (by simp only [List.size_toArray, List.length_append, bc_len, h.len]; omega), List.getElem?_toArray, bc_append]
    · have e1 : (w.drew.alloc (.cells ((bc bs ++ bc ys).toArray ++ Builtin.zeroCells (Value.int .u8 0).cells (grownCap w (n + m) c e - (n + m))) e)).cell? ⟨w.heap.size, j, none⟩ = _ := World.cell?_alloc_new w.drew _ _ j
      rw [Nat.zero_add, e1]
      have hsz : ((bc bs ++ bc ys).toArray ++ Builtin.zeroCells (Value.int .u8 0).cells (grownCap w (n + m) c e - (n + m))).size = grownCap w (n + m) c e := by
        rw [Array.size_append, List.size_toArray, List.length_append, bc_len, bc_len, h.len, hnl, size_zeroCells]
        show n + m + (grownCap w (n + m) c e - (n + m)) * 1 = _
        omega
      rw [Array.getElem?_eq_getElem (by rw [hsz]; exact hj)]
      rfl
    · rw [Nat.zero_add]; exact World.frozen?_alloc_new w.drew _ _ j

/-- at the operation -/
theorem wpList_append_txt {ops : Array Oper} {rest : List Oper} {o : Oper} {a : Act} {Q : Exit → Act → World → Prop} (hgd : o.guard = none) (s x : Operand) (t tx : TypeId)
    (ho : o.op = .call { callee := .builtin .append, args := #[s, x], argTypes := #[t, tx] })
    (e : TypeId) (i : TypeInfo) (ht : P.underlying t = some (.slice e)) (hi : P.info? e = some i) (hz : i.zero = some (.int .u8 0)) (hsize : i.size = 1) (hby : i.bytes = 1)
    (A : Option Addr) (n c : Nat) (bs : Bytes) (hv : a.eval s = .slice A n c) (h : Txt w base av A n c bs)
    (xv : Value) (m : Nat) (ys : Bytes) (hx : a.eval x = xv) (hs : Src P 1 tx xv m (bc ys) w) (hmax : n + m ≤ 140737488355328) (hbase : base ≤ w.heap.size) (hav : av < w.heap.size)
    (hK : ∀ A' c' w', Txt w' base av A' (n + m) c' (bs ++ ys) → Below base w w' → w'.heap[av]? = w.heap[av]? → wpList P ops Q rest (a.put o.dst (.slice A' (n + m) c')) w') : wpList P ops Q (o :: rest) a w := by
  refine wpList_plain hgd fun K hK' => ?_
  obtain ⟨A', c', w', hrun, h1, h2, h3⟩ := h.run_append (P := P) t tx o.type e i ht hi hz hsize hby xv m ys hs hmax hbase hav
  unfold Oper.wp
  simp [execOp, ho, resolve, invoke, builtin, hv, hx, hrun, Result.andThen]
  exact hK' _ _ (hK A' c' w' h1 h2 h3)

/-- []byte(s) -/
theorem run_text (src dst e : TypeId) (s : ByteArray) (hs : P.underlying src = some .string) (hd : P.underlying dst = some (.slice e)) (he : P.underlying e = some (.int .u8)) (hz : s.size ≤ maxLen) (w : World) :
    ∃ A c w', (convert src dst (.string s)).run P w = .ok (.slice A s.size c) w' ∧ Txt w' w.heap.size (w.heap.size + 1) A s.size c (toL s) ∧ Below w.heap.size w w' := by
  refine ⟨_, _, _, Lib.run_convert_string_bytes (P := P) w src dst e s hs hd he, ⟨(size_toL s).symm, grownCap_ge w s.size 0 e, grownCap_le_maxLen w s.size 0 e hz, fun _ => ⟨w.heap.size, 0, rfl, ⟨Nat.le_refl _, by omega⟩, by rw [Lib.bytesWorld_size]; omega, fun j hj => ?_, fun j hj => ⟨?_, ?_⟩⟩⟩, ?_⟩
  · rw [Nat.zero_add, Lib.bytesWorld_cell w e s j hj]
    have hj' : j < s.data.toList.length := by rw [size_toL] at hj; exact hj
    simp [bc, toL, List.getD, List.getElem?_eq_getElem hj']
  · have hsz : (Lib.bytesCells w e s).size = grownCap w s.size 0 e := by
      have := grownCap_ge w s.size 0 e
      rw [Lib.bytesCells, Array.size_append, Array.size_map, Array.size_replicate]
      show s.size + _ = _
      omega
    rw [Nat.zero_add]
    simp [World.cell?, Lib.bytesWorld_at_new, hsz, hj]
  · have hsz : (Lib.bytesCells w e s).size = grownCap w s.size 0 e := by
      have := grownCap_ge w s.size 0 e
      rw [Lib.bytesCells, Array.size_append, Array.size_map, Array.size_replicate]
      show s.size + _ = _
      omega
    rw [Nat.zero_add]
    simp [World.frozen?, Lib.bytesWorld_at_new, hsz]
    omega
  · exact ⟨rfl, rfl, rfl, by rw [Lib.bytesWorld_size]; omega, fun k hk => Lib.bytesWorld_at_old w e s k hk⟩

/-- string(b) -/
theorem Txt.run_string (h : Txt w base av A n c bs) (src dst e : TypeId) (hs : P.underlying src = some (.slice e)) (he : P.underlying e = some (.int .u8)) (hd : P.underlying dst = some .string) :
    (convert src dst (.slice A n c)).run P w = .ok (.string (ofL bs)) w := by
  rcases Nat.eq_zero_or_pos c with h0 | hc
  · subst h0
    obtain rfl : n = 0 := by have := h.le; omega
    obtain rfl : bs = [] := List.eq_nil_of_length_eq_zero h.len
    cases A with
    | none => exact run_convert_bytes_nil w src e hs he 0 0 dst hd
    | some a => exact run_convert_bytes_back w src dst e a 0 [] hs he hd (fun j hj => by simp at hj)
  · obtain ⟨b, off, rfl, _, _, hcell, _⟩ := h.lies hc
    have := run_convert_bytes_back (P := P) w src dst e ⟨b, off, none⟩ c bs hs he hd (fun j hj => by
      rw [Addr.add_lit, hcell j (by rw [← h.len]; exact hj)]
      simp [bc, List.getElem?_eq_getElem hj])
    rw [h.len] at this
    exact this
end
end Go.Proofs.YtiphbincnnppdaaGreatDoor

namespace Go.Proofs.YtiphbincnnppdaaGreatDoor
open Go.RowKit

theorem ofL_append (a b : Bytes) : ofL a ++ ofL b = ofL (a ++ b) := by
  apply ByteArray.ext
  simp [ofL]
theorem rp_list9 {vs : List Value} (h : vs.length = 9) : ∃ v0 v1 v2 v3 v4 v5 v6 v7 v8, vs = [v0, v1, v2, v3, v4, v5, v6, v7, v8] := by
  match vs, h with
  | [v0, v1, v2, v3, v4, v5, v6, v7, v8], _ => exact ⟨v0, v1, v2, v3, v4, v5, v6, v7, v8, rfl⟩
def putPhi (n : Nat) (i : Nat) (v : Value) (w : World) : Prop :=
  match i with
  | 0 => v = .int .i64 n
  | 1 => v = .int .i64 ((n : Int) % 128)
  | 2 => v = .int .i64 (128 + (n : Int) % 128)
  | 3 => v = .int .u8 (128 + (n : Int) % 128)
  | 4 => ∃ g, v = .slice (some ⟨g, 0, none⟩) 1 1 ∧ g < w.heap.size ∧ w.cell? ⟨g, 0, none⟩ = some (.int .u8 (128 + (n : Int) % 128))
  | 5 => v = .string (ofL [UInt8.ofNat (n % 128 + 128)])
  | 6 => v = .int .i64 n
  | 7 => v = .int .i64 ((n : Int) / 128)
  | _ => v = .string (ofL (encN (n / 128)))
theorem putPhi_keep (n : Nat) (i : Nat) (v : Value) (w w' : World) (h : putPhi n i v w) (hb : Below w.heap.size w w') : putPhi n i v w' := by
  match i with
  | 0 => exact h
  | 1 => exact h
  | 2 => exact h
  | 3 => exact h
  | 4 =>
    obtain ⟨g, e, hg, hc⟩ := h
    exact ⟨g, e, Nat.lt_of_lt_of_le hg hb.size, (hb.cell (p := ⟨g, 0, none⟩) hg).trans hc⟩
  | 5 => exact h
  | 6 => exact h
  | 7 => exact h
  | _ + 8 => exact h

set_option maxRecDepth 100000 in
set_option maxHeartbeats 2000000 in
theorem put_any (n : Nat) : n ≤ 9223372036854775807 → ∀ w : World, Calls Tryz.prog 90 #[.int .i64 n] w fun e w' => e = .returned (.string (ofL (encN n))) ∧ Below w.heap.size w w' := by
  induction n using Nat.strongRecOn with
  | _ n ih =>
  intro hn w
  have IH := Lib.hid ih; clear ih
  by_cases hs : n < 128
  · have hsi : (n : Int) < 128 := by omega
    have HE := Lib.hid (encN_small hs)
    have hconv := run_convert_bytes_back (P := Tryz.prog) (w.alloc (.cells #[.int .u8 n] 5)) 72 9 5 ⟨w.heap.size, 0, none⟩ 1 [UInt8.ofNat n] Tryz.underlying72 Tryz.underlying5 Tryz.underlying9 (by
      intro j hj
      simp at hj; subst hj
      simp [Addr.add, toNat_ofNat8 (n := n) (by omega)])
    simp only [List.length_cons, List.length_nil, Nat.zero_add] at hconv
    go_enter Tryz.func90, Tryz.ntmps90
    go_wp2
    go_ret
    exact ⟨by rw [HE.out]; rfl, (Below.refl _ _).alloc (Nat.le_refl _) _⟩
  · have hsi : ¬ (n : Int) < 128 := by omega
    have HE := Lib.hid (encN_big hs)
    go_enter Tryz.func90, Tryz.ntmps90
    go_wp2_with fail
    refine wp_region_stableD 9 [9, 10, 11, 12, 13, 14, 15, 16, 17] (by kernel_rfl) (by kernel_rfl) (by kernel_rfl) (fun W => Below w.heap.size w W) (fun W W' => Below W.heap.size W W')
      (putPhi n) (fun W W' h1 h2 => h1.trans (h2.mono h1.size)) (putPhi_keep n) (Below.refl _ _).drew ?step ?tail
    case step =>
      intro i o vs W hi ho hv hR hphi
      obtain ⟨v0, v1, v2, v3, v4, v5, v6, v7, v8, rfl⟩ := rp_list9 hv
      simp only [List.zip, List.zipWith, putAll, Act.put, List.setIfInBounds_toArray, List.set]
      have h0 : (0 : Int) ≤ (n : Int) := by omega
      match i, hi, ho with
      | 0, _, rfl => exact gives_value (w' := W) (by go_simp) ⟨Below.refl _ _, rfl⟩
      | 1, _, rfl =>
        have e0 : v0 = _ := hphi ⟨0, .data⟩ (by simp) rfl v0 rfl
        subst e0
        exact gives_value (v := .int .i64 ((n : Int) % 128)) (w' := W) (by go_simp; exact Int.tmod_eq_emod_of_nonneg h0) ⟨Below.refl _ _, rfl⟩
      | 2, _, rfl =>
        have e0 : v1 = _ := hphi ⟨1, .data⟩ (by simp) rfl v1 rfl
        subst e0
        exact gives_value (v := .int .i64 (128 + (n : Int) % 128)) (w' := W) (by go_simp; exact IntWalk.i64_in _ (by omega)) ⟨Below.refl _ _, rfl⟩
      | 3, _, rfl =>
        have e0 : v2 = _ := hphi ⟨2, .data⟩ (by simp) rfl v2 rfl
        subst e0
        exact gives_value (v := .int .u8 (128 + (n : Int) % 128)) (w' := W) (by go_simp; exact IntWalk.u8_in _ (by omega)) ⟨Below.refl _ _, rfl⟩
      | 4, _, rfl =>
        have e0 : v3 = _ := hphi ⟨3, .data⟩ (by simp) rfl v3 rfl
        subst e0
        exact gives_value (v := .slice (some ⟨W.heap.size, 0, none⟩) 1 1) (w' := W.alloc (.cells #[.int .u8 (128 + (n : Int) % 128)] 5)) (by go_simp) ⟨(Below.refl _ _).alloc (Nat.le_refl _) _, W.heap.size, rfl, by simp, by simp⟩
      | 5, _, rfl =>
        obtain ⟨g, e0, hg, hc⟩ : ∃ g, v4 = .slice (some ⟨g, 0, none⟩) 1 1 ∧ g < W.heap.size ∧ W.cell? ⟨g, 0, none⟩ = some (.int .u8 (128 + (n : Int) % 128)) := hphi ⟨4, .data⟩ (by simp) rfl v4 rfl
        subst e0
        have hconv := run_convert_bytes_back (P := Tryz.prog) W 72 9 5 ⟨g, 0, none⟩ 1 [UInt8.ofNat (n % 128 + 128)] Tryz.underlying72 Tryz.underlying5 Tryz.underlying9 (by
          intro j hj
          simp at hj; subst hj
          simp only [Addr.add, if_true, List.getElem_cons_zero, toNat_ofNat8 (n := n % 128 + 128) (by omega)]
          rw [hc]; congr 2; omega)
        simp only [List.length_cons, List.length_nil, Nat.zero_add] at hconv
        exact gives_value (v := .string (ofL [UInt8.ofNat (n % 128 + 128)])) (w' := W) (by go_simp; rfl) ⟨Below.refl _ _, rfl⟩
      | 6, _, rfl => exact gives_value (w' := W) (by go_simp) ⟨Below.refl _ _, rfl⟩
      | 7, _, rfl =>
        have e0 : v6 = _ := hphi ⟨6, .data⟩ (by simp) rfl v6 rfl
        subst e0
        exact gives_value (v := .int .i64 ((n : Int) / 128)) (w' := W) (by go_simp; exact IntWalk.i64_in _ (by omega)) ⟨Below.refl _ _, rfl⟩
      | 8, _, rfl =>
        have e0 : v7 = _ := hphi ⟨7, .data⟩ (by simp) rfl v7 rfl
        subst e0
        refine gives_call (f := 90) (args := #[.int .i64 ((n / 128 : Nat) : Int)]) (by go_simp) ((IH.out (n / 128) (by omega) (by omega) W).mono ?_)
        rintro e W' ⟨rfl, hb⟩
        exact ⟨_, rfl, hb, rfl⟩
    case tail =>
      intro vs W hv hR hphi
      obtain ⟨v0, v1, v2, v3, v4, v5, v6, v7, v8, rfl⟩ := rp_list9 hv
      simp only [List.zip, List.zipWith, putAll, Act.put, List.setIfInBounds_toArray, List.set, List.drop]
      have e5 : v5 = .string (ofL [UInt8.ofNat (n % 128 + 128)]) := hphi 5 v5 rfl
      have e8 : v8 = .string (ofL (encN (n / 128))) := hphi 8 v8 rfl
      subst e5 e8
      have HR := Lib.hid hR
      clear hphi hR
      have hl1 : (ofL [UInt8.ofNat (n % 128 + 128)]).size = 1 := rfl
      have hl2 : (ofL (encN (n / 128))).size ≤ 10 := by rw [size_ofL]; exact encN_len 9 _ (by omega)
      have HF : Hid (ofL [UInt8.ofNat (n % 128 + 128)] ++ ofL (encN (n / 128)) = ofL (encN n)) := by
        show _ = _
        rw [ofL_append, HE.out]; rfl
      generalize ofL [UInt8.ofNat (n % 128 + 128)] = p at *
      generalize ofL (encN (n / 128)) = q at *
      have hsum : p.size + q.size ≤ 9223372036854775807 := by omega
      clear hl1 hl2
      go_wp2
      go_ret
      exact ⟨by rw [HF.out]; rfl, HR.out⟩

set_option maxHeartbeats 1000000 in
theorem refPutInt_any (n : Nat) (hn : n ≤ 1099511627776) (w : World) :
    Calls Tryz.prog 69 #[.int .i64 n] w fun e w' => e = .returned (.tuple #[.string (ofL (encN n)), .int .i64 0]) ∧ Below w.heap.size w w' := by
  have h0 : ¬ (n : Int) < 0 := by omega
  have h1 : ¬ (1099511627776 : Int) < (n : Int) := by omega
  go_enter Tryz.func69, Tryz.ntmps69
  go_wp2_with fail
  refine (put_any n (by omega) _).mono ?_
  rintro e w1 ⟨rfl, hb1⟩
  have HB1 := Lib.hid hb1; clear hb1
  go_wp2_with fail
  go_ret2
  exact ⟨rfl, HB1.out⟩

set_option maxHeartbeats 1000000 in
theorem refPutText_any (s : ByteArray) (hs : s.size ≤ 65536) (w : World) :
    Calls Tryz.prog 70 #[.string s] w fun e w' => e = .returned (.tuple #[.string (ofL (encT (toL s))), .int .i64 0]) ∧ Below w.heap.size w w' := by
  have hsi : ¬ (65536 : Int) < (s.size : Int) := by omega
  go_enter Tryz.func70, Tryz.ntmps70
  go_wp2_with fail
  refine (put_any s.size (by omega) _).mono ?_
  rintro e w1 ⟨rfl, hb1⟩
  have HB1 := Lib.hid hb1; clear hb1
  have hl2 : (ofL (encN s.size)).size ≤ 6 := by rw [size_ofL]; exact encN_len 5 _ (by omega)
  have HF : Hid (ofL (encN s.size) ++ s = ofL (encT (toL s))) := by
    show _ = _
    unfold encT
    rw [← size_toL, ← ofL_append, ofL_toL]
  generalize ofL (encN s.size) = q at *
  have hsum : q.size + s.size ≤ 9223372036854775807 := by omega
  go_wp2_with fail
  go_ret2
  exact ⟨by rw [HF.out]; rfl, HB1.out⟩
end Go.Proofs.YtiphbincnnppdaaGreatDoor

namespace Go.Proofs.YtiphbincnnppdaaGreatDoor
open Go.RowKit

set_option maxHeartbeats 1000000 in
theorem rnum_any (m : Nat) (w : World) (hm : m ≤ 1099511627776) : Calls Tryz.prog 40 #[.int .i64 m] w fun e w' => e = .returned (.string (ofL (encN m))) ∧ Below w.heap.size w w' := by
  go_enter Tryz.func40, Tryz.ntmps40
  go_wp2_with fail
  refine (refPutInt_any m hm _).mono ?_
  rintro e w1 ⟨rfl, hb1⟩
  have HB1 := Lib.hid hb1; clear hb1
  go_wp2_with fail
  go_ret
  exact ⟨rfl, HB1.out⟩
set_option maxHeartbeats 1000000 in
theorem rtxt_any (s : ByteArray) (w : World) (hs : s.size ≤ 65536) : Calls Tryz.prog 41 #[.string s] w fun e w' => e = .returned (.string (ofL (encT (toL s)))) ∧ Below w.heap.size w w' := by
  go_enter Tryz.func41, Tryz.ntmps41
  go_wp2_with fail
  refine (refPutText_any s hs _).mono ?_
  rintro e w1 ⟨rfl, hb1⟩
  have HB1 := Lib.hid hb1; clear hb1
  go_wp2_with fail
  go_ret
  exact ⟨rfl, HB1.out⟩
theorem ge_not_less {a b : ByteArray} {ge : Bool} (h : (!Op.bytesLess a.toList b.toList) = ge) : less a b = !ge := by
  rw [less_str] at h
  rw [← h]; simp
set_option maxRecDepth 100000 in
set_option maxHeartbeats 4000000 in
theorem rcheckOutput_any (fd : Bool) (msg : ByteArray) (A : Option Addr) (n c B : Nat) (fs : List Fl) (w : World) (h0 : Sl w B 2 A n (flat flC fs)) (hB : B ≤ w.heap.size) (hn : n ≤ maxLen) (hfs : ∀ f ∈ fs, f.1.size ≤ maxLen) :
    Calls Tryz.prog 47 #[.agg #[.bool fd, .string msg, .slice A n c]] w fun e w' => e = .returned (.int .i64 (chkO fd msg fs)) ∧ Below w.heap.size w w' := by
  have HL := Lib.hid (h0.len flC_len (by omega))
  have hn' : n ≤ 9223372036854775807 := by unfold maxLen at hn; exact hn
  have H0 := Lib.hid h0; have HFS := Lib.hid hfs
  clear h0 hfs
  have HM : Hid (chkO fd msg fs = if fd = true then (if msg.size = 0 ∨ 0 < fs.length then 1 else if 300 < msg.size then 4 else 0) else if msg.size ≠ 0 then 1 else if 10 < fs.length then 4 else chkF none fs) := rfl
  rw [HL.out] at HM
  have hem := str_empty msg
  obtain ⟨W, hW⟩ : ∃ W, w.alloc (.cells #[.bool fd, .string msg, .slice A n c] 50) = W := ⟨_, rfl⟩
  have HB : Hid (Below w.heap.size w W) := by rw [← hW]; exact (Below.refl w.heap.size w).alloc (Nat.le_refl _) _
  have K0 : Hid (Bk W w.heap.size 50 #[.bool fd, .string msg, .slice A n c]) := by rw [← hW]; exact Bk.new w _ _
  have u0 := K0.out.cell 0; have u1 := K0.out.cell 1; have u2 := K0.out.cell 2
  simp at u0 u1 u2
  have zW : W.heap.size = w.heap.size + 1 := by rw [← hW]; simp
  generalize chkO fd msg fs = r at *
  cases fd with
  | true =>
    rw [if_pos rfl] at HM
    by_cases e1 : msg.size = 0
    · rw [decide_eq_true e1] at hem
      rw [if_pos (.inl e1)] at HM
      clear e1
      go_enter Tryz.func47, Tryz.ntmps47
      go_wp2_with fail
      go_ret
      exact ⟨ret_int HM.out.symm, HB.out⟩
    · rw [decide_eq_false e1] at hem
      by_cases e2 : 0 < n
      · rw [if_pos (.inr e2)] at HM
        have e2z : (0 : Int) < (n : Int) := by omega
        clear e1 e2
        go_enter Tryz.func47, Tryz.ntmps47
        go_wp2_with fail
        go_ret
        exact ⟨ret_int HM.out.symm, HB.out⟩
      · rw [if_neg (by omega)] at HM
        have e2z : ¬ (0 : Int) < (n : Int) := by omega
        by_cases e3 : 300 < msg.size
        · rw [if_pos e3] at HM
          have e3z : (300 : Int) < (msg.size : Int) := by omega
          clear e1 e2 e3
          go_enter Tryz.func47, Tryz.ntmps47
          go_wp2_with fail
          go_ret
          exact ⟨ret_int HM.out.symm, HB.out⟩
        · rw [if_neg e3] at HM
          have e3z : ¬ (300 : Int) < (msg.size : Int) := by omega
          clear e1 e2 e3
          go_enter Tryz.func47, Tryz.ntmps47
          go_wp2_with fail
          go_ret
          exact ⟨ret_int HM.out.symm, HB.out⟩
  | false =>
    rw [if_neg (by decide)] at HM
    by_cases e1 : msg.size = 0
    · rw [decide_eq_true e1] at hem
      rw [if_neg (by omega)] at HM
      clear e1
      by_cases e2 : 10 < n
      · rw [if_pos e2] at HM
        have e2z : (10 : Int) < (n : Int) := by omega
        clear e2
        go_enter Tryz.func47, Tryz.ntmps47
        go_wp2_with fail
        go_ret
        exact ⟨ret_int HM.out.symm, HB.out⟩
      · rw [if_neg e2] at HM
        have e2z : ¬ (10 : Int) < (n : Int) := by omega
        clear e2
        go_enter Tryz.func47, Tryz.ntmps47
        go_wp2_with fail
        go_loopw [3] (fun q wr => ∃ k : Nat, k ≤ n ∧ q = .int .i64 k ∧ Hid (r = chkF (prevF fs k) (fs.drop k)) ∧ Hid (Bk wr w.heap.size 50 #[.bool false, .string msg, .slice A n c]) ∧ Hid (Below w.heap.size w wr)) (fun q _ => n - (intOf q).toNat)
        case atStart => exact ⟨0, Nat.zero_le _, rfl, HM.out, K0.out, HB.out⟩
        case round =>
          obtain ⟨k, hk, rfl, hK, hBk, hBel⟩ := hrel
          have hwr := hBel.out.size
          have hoz := hBk.out.lt
          have t2 := hBk.out.cell 2; simp at t2
          by_cases hlt : k < n
          · obtain ⟨b, off, f, rfl, hb, hf, y0, y1⟩ := (H0.out.below hBel.out hB).fl hlt
            have hlz : (k : Int) < (n : Int) := by omega
            have hC := hK.out
            rw [chkF_at hf] at hC
            have HC := Lib.hid hC
            have HF := Lib.hid hf
            have HFN := Lib.hid (named_any f.1 wr (HFS.out f (List.mem_of_getElem? HF.out)))
            clear hC hf
            go_wp2_with fail
            refine HFN.out.mono ?_
            rintro e w2 ⟨rfl, hb2⟩
            have hz2 := hb2.size
            have KO2 := Lib.hid (hBk.out.below hb2 (by omega))
            have HB2 : Hid (Below w.heap.size w w2) := hBel.out.trans (hb2.mono (by omega))
            have x2 := KO2.out.cell 2
            simp at x2
            have z0 := (hb2.cell (p := ⟨b, off + k * 2, none⟩) (by show b < _; omega)).trans y0
            have z1 := (hb2.cell (p := ⟨b, off + k * 2 + 1, none⟩) (by show b < _; omega)).trans y1
            clear hb2 HFN
            cases hfn : fnB f.1 with
            | false =>
              have HE : Hid (r = 6) := by show _ = _; rw [HC.out, if_pos hfn]
              clear hfn
              go_wp2_with fail
              go_ret
              exact ⟨ret_int HE.out.symm, HB2.out⟩
            | true =>
              rw [hfn, if_neg (by decide)] at HC
              clear hfn
              by_cases hsz : 65536 < f.2.size
              · have hszz : (65536 : Int) < (f.2.size : Int) := by omega
                have HE : Hid (r = 4) := by show _ = _; rw [HC.out, if_pos hsz]
                clear hsz
                go_wp2_with fail
                go_ret
                exact ⟨ret_int HE.out.symm, HB2.out⟩
              · have hszz : ¬ (65536 : Int) < (f.2.size : Int) := by omega
                rw [if_neg hsz] at HC
                clear hsz
                cases k with
                | zero =>
                  have HN : Hid (r = chkF (prevF fs 1) (fs.drop 1)) := by
                    show _ = _
                    rw [HC.out, if_neg]
                    simp [prevF, okP]
                  go_wp2_with fail
                  go_quiet (fail)
                  go_wp2_with fail
                  go_roundw
                  case rel => exact ⟨1, by omega, by go_num, HN.out, KO2.out, below_drewN HB2.out _⟩
                  case measure => simp [intOf]; omega
                | succ k =>
                  obtain ⟨b', off', p, hbe, _, hp, p0, _⟩ := (H0.out.below HB2.out hB).fl (show k < n by omega)
                  cases hbe
                  obtain ⟨le, hle⟩ : ∃ le, (!Op.bytesLess p.1.toList f.1.toList) = le := ⟨_, rfl⟩
                  have hls := ge_not_less hle
                  have hpv : prevF fs (k + 1) = some p.1 := by unfold prevF; rw [if_neg (by omega), Nat.add_sub_cancel, hp]; rfl
                  rw [hpv, okP] at HC
                  have hg0 : decide ((0 : Int) < ((k + 1 : Nat) : Int)) = true := by rw [decide_eq_true_iff]; omega
                  clear hp hpv
                  rw [hls] at HC
                  clear hls
                  cases le with
                  | false =>
                    have HN : Hid (r = chkF (prevF fs (k + 1 + 1)) (fs.drop (k + 1 + 1))) := by show _ = _; rw [HC.out, if_neg (by decide)]
                    clear HC
                    go_wp2_with fail
                    go_quiet (fail)
                    go_wp2_with fail
                    go_roundw
                    case rel => exact ⟨k + 1 + 1, by omega, by go_num, HN.out, KO2.out, below_drewN HB2.out _⟩
                    case measure => simp [intOf]; omega
                  | true =>
                    have HE : Hid (r = 10) := by show _ = _; rw [HC.out, if_pos (by decide)]
                    clear HC
                    go_wp2_with fail
                    go_quiet (fail)
                    go_wp2_with fail
                    go_ret
                    exact ⟨ret_int HE.out.symm, below_drewN HB2.out _⟩
          · have hlz : ¬ (k : Int) < (n : Int) := by omega
            have HE : Hid (r = 0) := by
              show _ = _
              rw [hK.out, List.drop_of_length_le (by rw [HL.out]; omega), chkF]
            go_wp2_with fail
            go_ret
            exact ⟨ret_int HE.out.symm, hBel.out⟩
    · rw [decide_eq_false e1] at hem
      rw [if_pos e1] at HM
      clear e1
      go_enter Tryz.func47, Tryz.ntmps47
      go_wp2_with fail
      go_ret
      exact ⟨ret_int HM.out.symm, HB.out⟩
end Go.Proofs.YtiphbincnnppdaaGreatDoor

namespace Go.Proofs.YtiphbincnnppdaaGreatDoor
open Go.RowKit

set_option maxRecDepth 100000 in
set_option maxHeartbeats 8000000 in
theorem rencodeOutput_any (fd : Bool) (msg : ByteArray) (A : Option Addr) (n c B : Nat) (fs : List Fl) (w : World) (h0 : Sl w B 2 A n (flat flC fs)) (hB : B ≤ w.heap.size) (hn : n ≤ maxLen) (hfs : ∀ f ∈ fs, f.1.size ≤ maxLen) :
    Calls Tryz.prog 23 #[.agg #[.bool fd, .string msg, .slice A n c]] w (EncEnd fd msg fs w) := by
  have HL := Lib.hid (h0.len flC_len (by omega))
  obtain ⟨W, hW⟩ : ∃ W, w.alloc (.cells #[.bool fd, .string msg, .slice A n c] 50) = W := ⟨_, rfl⟩
  have HB : Hid (Below w.heap.size w W) := by rw [← hW]; exact (Below.refl w.heap.size w).alloc (Nat.le_refl _) _
  have K0 : Hid (Bk W w.heap.size 50 #[.bool fd, .string msg, .slice A n c]) := by rw [← hW]; exact Bk.new w _ _
  have zW : W.heap.size = w.heap.size + 1 := by rw [← hW]; simp
  have H0 := Lib.hid h0; have HFS := Lib.hid hfs
  have HCK := Lib.hid (rcheckOutput_any fd msg A n c B fs W (h0.below HB.out hB) (by omega) hn hfs)
  clear h0 hfs
  have HR : Hid (∀ r, encOR fd msg fs = r → ∀ e w', e = Ending.returned (.tuple #[.string (ofL r.1), .int .i64 r.2]) → Below w.heap.size w w' → EncEnd fd msg fs w e w') := fun r h e w' h1 h2 => by subst h; exact ⟨h1, h2⟩
  go_enter Tryz.func23, Tryz.ntmps23
  have u0 := K0.out.cell 0; have u1 := K0.out.cell 1; have u2 := K0.out.cell 2
  simp at u0 u1 u2
  go_wp2_with fail
  refine HCK.out.mono ?_
  rintro e w1 ⟨rfl, hb1⟩
  have hz1 := hb1.size
  have HB1 : Hid (Below w.heap.size w w1) := HB.out.trans (hb1.mono (by omega))
  have K1 := Lib.hid (K0.out.below hb1 (by omega))
  clear u0 u1 u2 hb1 hW HCK
  by_cases hc : chkO fd msg fs = 0
  · have HV : Hid (encOR fd msg fs = (encO fd msg fs, 0)) := by show _ = _; unfold encOR; rw [if_pos hc]
    obtain ⟨hm3, hl10, hfl⟩ := chkO_zero hc
    rw [HL.out] at hl10
    have HFL := Lib.hid hfl
    rw [hc]
    clear hc hfl
    go_wp2_with fail
    refine (rnum_any 0 w1 (by omega)).mono ?_
    rintro e w2 ⟨rfl, hb2⟩
    have hz2 := hb2.size
    have HB2 : Hid (Below w.heap.size w w2) := HB1.out.trans (hb2.mono (by omega))
    have K2 := Lib.hid (K1.out.below hb2 (by omega))
    clear hb2 K1 HB1
    have v0 := K2.out.cell 0; simp at v0
    obtain ⟨fn, hfn⟩ : ∃ fn : Nat, (if fd = true then 1 else 0) = fn := ⟨_, rfl⟩
    have hfn1 : fn ≤ 1 := by rw [← hfn]; split <;> omega
    have HEO : Hid (encO fd msg fs = encN fn ++ encT (toL msg) ++ encN n ++ encFs fs) := by show _ = _; unfold encO; rw [hfn, HL.out]
    have HFN : Hid (fd = true → fn = 1) := fun h => by rw [← hfn, if_pos h]
    have HFN0 : Hid (fd = false → fn = 0) := fun h => by rw [← hfn, if_neg (by rw [h]; decide)]
    clear hfn
    cases fd with
    | true =>
      obtain rfl : fn = 1 := HFN.out rfl
      go_wp2_with fail
      refine (rnum_any 1 w2 (by omega)).mono ?_
      rintro e w3 ⟨rfl, hb3⟩
      have hz3 := hb3.size
      have HB3 : Hid (Below w.heap.size w w3) := HB2.out.trans (hb3.mono (by omega))
      have K3 := Lib.hid (K2.out.below hb3 (by omega))
      obtain ⟨h0, hh0⟩ : ∃ h0, encN 1 = h0 := ⟨_, rfl⟩
      rw [hh0] at HEO ⊢
      have hl0 : h0.length ≤ 6 := by rw [← hh0]; exact encN_len 5 1 (by omega)
      clear hb3 K2 HB2 v0 hh0
      have u0 := K3.out.cell 0; have u1 := K3.out.cell 1; have u2 := K3.out.cell 2
      simp at u0 u1 u2
      have hw3z := K3.out.lt
      have s0 : (ofL h0).size ≤ 6 := by rw [size_ofL]; exact hl0
      have s1 : (ofL (encT (toL msg))).size ≤ 65542 := by rw [size_ofL]; exact encT_len _ (by rw [← size_toL]; omega)
      have s2 : (ofL (encN n)).size ≤ 6 := by rw [size_ofL]; exact encN_len 5 n (by omega)
      have s01 : (ofL h0 ++ ofL (encT (toL msg))).size = (ofL h0).size + (ofL (encT (toL msg))).size := ByteArray.size_append
      have g1 : ¬ 9223372036854775807 < (ofL h0).size + (ofL (encT (toL msg))).size := by omega
      have g3 : (ofL h0).size + (ofL (encT (toL msg))).size + (ofL (encN n)).size ≤ 9223372036854775807 := by omega
      have g2 : ¬ 9223372036854775807 < (ofL h0 ++ ofL (encT (toL msg))).size + (ofL (encN n)).size := by omega
      go_wp2_with fail
      refine wp_region_stableGD 10 (16 :: 17 :: 18 :: 19 :: 20 :: 21 :: 22 :: 23 :: 24 :: 25 :: []) (by kernel_rfl) (by kernel_rfl) (by kernel_rfl) (fun W => Below w3.heap.size w3 W) (fun W W' => Below W.heap.size W W')
        (vPhi ((.string (ofL h0)) :: (.pointer (some ⟨w.heap.size, 1, none⟩)) :: (.string msg) :: (.string (ofL (encT (toL msg)))) :: (.string (ofL h0 ++ ofL (encT (toL msg)))) :: (.pointer (some ⟨w.heap.size, 2, none⟩)) :: (.slice A n c) :: (.int .i64 (n : Int)) :: (.string (ofL (encN n))) :: (.string (ofL h0 ++ ofL (encT (toL msg)) ++ ofL (encN n))) :: [])) (fun W W' h1 h2 => h1.trans (h2.mono h1.size)) (fun i v W W' h _ => h) (Below.refl _ _).drew ?stepA ?tailA
      case stepA =>
        intro i o vs W hi ho hv hR hphi
        obtain ⟨v0, v1, v2, v3, v4, v5, v6, v7, v8, v9, rfl⟩ := list10 hv
        simp only [List.zip, List.zipWith, putAll, Act.put, List.setIfInBounds_toArray, List.set]
        have hWz := hR.size
        have l1 := (hR.cell (p := ⟨w.heap.size, 1, none⟩) (by show w.heap.size < _; omega)).trans u1
        have l2 := (hR.cell (p := ⟨w.heap.size, 2, none⟩) (by show w.heap.size < _; omega)).trans u2
        match i, hi, ho with
        | 0, _, rfl =>
          exact .inl ⟨rfl, gives_value (v := .string (ofL h0)) (w' := W) (by go_simp) ⟨Below.refl _ _, fun u hu => by cases hu; rfl⟩⟩
        | 1, _, rfl =>
          exact .inl ⟨rfl, gives_value (v := .pointer (some ⟨w.heap.size, 1, none⟩)) (w' := W) (by go_simp) ⟨Below.refl _ _, fun u hu => by cases hu; rfl⟩⟩
        | 2, _, rfl =>
          have e1 : v1 = _ := hphi ⟨1, .data⟩ (by simp) rfl v1 rfl _ rfl
          subst e1
          exact .inl ⟨rfl, gives_value (v := .string msg) (w' := W) (by go_simp) ⟨Below.refl _ _, fun u hu => by cases hu; rfl⟩⟩
        | 3, _, rfl =>
          have e2 : v2 = _ := hphi ⟨2, .data⟩ (by simp) rfl v2 rfl _ rfl
          subst e2
          refine .inl ⟨rfl, gives_call (f := 41) (args := #[.string (msg)]) (by go_simp) ((rtxt_any (msg) W (by omega)).mono ?_)⟩
          rintro e W' ⟨rfl, hb'⟩
          exact ⟨_, rfl, hb', fun u hu => by cases hu; rfl⟩
        | 4, _, rfl =>
          have e0 : v0 = _ := hphi ⟨0, .data⟩ (by simp) rfl v0 rfl _ rfl
          have e3 : v3 = _ := hphi ⟨3, .data⟩ (by simp) rfl v3 rfl _ rfl
          subst e0 e3
          exact .inl ⟨rfl, gives_value (v := .string (ofL h0 ++ ofL (encT (toL msg)))) (w' := W) (by go_simp) ⟨Below.refl _ _, fun u hu => by cases hu; rfl⟩⟩
        | 5, _, rfl =>
          exact .inl ⟨rfl, gives_value (v := .pointer (some ⟨w.heap.size, 2, none⟩)) (w' := W) (by go_simp) ⟨Below.refl _ _, fun u hu => by cases hu; rfl⟩⟩
        | 6, _, rfl =>
          have e5 : v5 = _ := hphi ⟨5, .data⟩ (by simp) rfl v5 rfl _ rfl
          subst e5
          exact .inl ⟨rfl, gives_value (v := .slice A n c) (w' := W) (by go_simp) ⟨Below.refl _ _, fun u hu => by cases hu; rfl⟩⟩
        | 7, _, rfl =>
          have e6 : v6 = _ := hphi ⟨6, .data⟩ (by simp) rfl v6 rfl _ rfl
          subst e6
          exact .inl ⟨rfl, gives_value (v := .int .i64 (n : Int)) (w' := W) (by go_simp) ⟨Below.refl _ _, fun u hu => by cases hu; rfl⟩⟩
        | 8, _, rfl =>
          have e7 : v7 = _ := hphi ⟨7, .data⟩ (by simp) rfl v7 rfl _ rfl
          subst e7
          refine .inl ⟨rfl, gives_call (f := 40) (args := #[.int .i64 (n : Int)]) (by go_simp) ((rnum_any n W (by omega)).mono ?_)⟩
          rintro e W' ⟨rfl, hb'⟩
          exact ⟨_, rfl, hb', fun u hu => by cases hu; rfl⟩
        | 9, _, rfl =>
          have e4 : v4 = _ := hphi ⟨4, .data⟩ (by simp) rfl v4 rfl _ rfl
          have e8 : v8 = _ := hphi ⟨8, .data⟩ (by simp) rfl v8 rfl _ rfl
          subst e4 e8
          exact .inl ⟨rfl, gives_value (v := .string (ofL h0 ++ ofL (encT (toL msg)) ++ ofL (encN n))) (w' := W) (by go_simp) ⟨Below.refl _ _, fun u hu => by cases hu; rfl⟩⟩
        | i + 10, hi, _ => exact absurd hi (by omega)
      case tailA =>
        intro vs W hv hR hphi
        obtain ⟨v0, v1, v2, v3, v4, v5, v6, v7, v8, v9, rfl⟩ := list10 hv
        simp only [List.zip, List.zipWith, putAll, Act.put, List.setIfInBounds_toArray, List.set, List.drop]
        have e0 : v0 = _ := hphi 0 v0 rfl _ rfl
        have e1 : v1 = _ := hphi 1 v1 rfl _ rfl
        have e2 : v2 = _ := hphi 2 v2 rfl _ rfl
        have e3 : v3 = _ := hphi 3 v3 rfl _ rfl
        have e4 : v4 = _ := hphi 4 v4 rfl _ rfl
        have e5 : v5 = _ := hphi 5 v5 rfl _ rfl
        have e6 : v6 = _ := hphi 6 v6 rfl _ rfl
        have e7 : v7 = _ := hphi 7 v7 rfl _ rfl
        have e8 : v8 = _ := hphi 8 v8 rfl _ rfl
        have e9 : v9 = _ := hphi 9 v9 rfl _ rfl
        subst e0 e1 e2 e3 e4 e5 e6 e7 e8 e9
        have HB4 : Hid (Below w.heap.size w W) := HB3.out.trans (hR.mono (by omega))
        have K4 := Lib.hid (K3.out.below hR (by omega))
        obtain ⟨hd, hhd⟩ : ∃ hd, h0 ++ encT (toL msg) ++ encN n = hd := ⟨_, rfl⟩
        have e10 : ofL h0 ++ ofL (encT (toL msg)) ++ ofL (encN n) = ofL hd := by rw [ofL_append, ofL_append, hhd]
        rw [e10]
        have hld : hd.length ≤ 80000 := by
          rw [← hhd, List.length_append, List.length_append]
          rw [size_ofL] at s0 s1 s2; omega
        rw [hhd] at HEO
        clear e10 hhd g1 g2 s01 s0 s1 s2 u0 u1 u2 K3 HB3 hR
        go_wp2_with fail
        go_loopw [5, 6] (fun q5 q6 wr => ∃ k : Nat, k ≤ n ∧ q6 = .int .i64 k ∧ q5 = .string (ofL (hd ++ encFs (fs.take k))) ∧ Hid (Bk wr w.heap.size 50 #[.bool true, .string msg, .slice A n c]) ∧ Hid (Below w.heap.size w wr)) (fun _ q6 _ => n - (intOf q6).toNat)
        case atStart => exact ⟨0, Nat.zero_le _, rfl, by simp [encFs], K4.out, HB4.out⟩
        case round =>
          obtain ⟨k, hk, rfl, rfl, hBk, hBel⟩ := hrel
          have hwr := hBel.out.size
          have hoz := hBk.out.lt
          have t2 := hBk.out.cell 2; simp at t2
          by_cases hlt : k < n
          · obtain ⟨b, off, f, rfl, hb, hf, y0, y1⟩ := (H0.out.below hBel.out hB).fl hlt
            have hlz : (k : Int) < (n : Int) := by omega
            have hft := HFL.out f (List.mem_of_getElem? hf)
            have HSN := Lib.hid (encFs_snoc hf)
            have hln : (encFs (fs.take k)).length ≤ 1310840 := by
              have h1 := encFs_len (fs := fs.take k) (fun g hg => HFL.out g (List.mem_of_mem_take hg))
              rw [List.length_take] at h1
              have h2 : min k fs.length ≤ 10 := by omega
              exact Nat.le_trans h1 (Nat.mul_le_mul_right _ h2)
            obtain ⟨cur, hcur⟩ : ∃ cur, hd ++ encFs (fs.take k) = cur := ⟨_, rfl⟩
            have s0 : (ofL cur).size ≤ 1400000 := by rw [size_ofL, ← hcur, List.length_append]; omega
            have s1 : (ofL (encT (toL f.1))).size ≤ 65542 := by rw [size_ofL]; exact encT_len _ (by rw [← size_toL]; omega)
            have s2 : (ofL (encT (toL f.2))).size ≤ 65542 := by rw [size_ofL]; exact encT_len _ (by rw [← size_toL]; omega)
            have s01 : (ofL cur ++ ofL (encT (toL f.1))).size = (ofL cur).size + (ofL (encT (toL f.1))).size := ByteArray.size_append
            have g1 : ¬ 9223372036854775807 < (ofL cur).size + (ofL (encT (toL f.1))).size := by omega
            have g3 : (ofL cur).size + (ofL (encT (toL f.1))).size + (ofL (encT (toL f.2))).size ≤ 9223372036854775807 := by omega
            have g2 : ¬ 9223372036854775807 < (ofL cur ++ ofL (encT (toL f.1))).size + (ofL (encT (toL f.2))).size := by omega
            have HN : Hid (ofL cur ++ ofL (encT (toL f.1)) ++ ofL (encT (toL f.2)) = ofL (hd ++ encFs (fs.take (k + 1)))) := by
              show _ = _
              rw [ofL_append, ofL_append, HSN.out, ← hcur, List.append_assoc, List.append_assoc, List.append_assoc]
            rw [hcur]
            clear hcur HSN hf
            go_wp2_with fail
            refine wp_region_stableGD 17 (33 :: 34 :: 35 :: 36 :: 37 :: 38 :: 39 :: 40 :: 41 :: 42 :: 43 :: 44 :: 45 :: 46 :: 47 :: 48 :: 49 :: []) (by kernel_rfl) (by kernel_rfl) (by kernel_rfl) (fun W => Below wr.heap.size wr W) (fun W W' => Below W.heap.size W W')
              (vPhi ((.string (ofL cur)) :: (.pointer (some ⟨w.heap.size, 2, none⟩)) :: (.slice (some ⟨b, off, none⟩) n c) :: (.int .i64 (k : Int)) :: (.pointer (some ⟨b, off + k * 2, none⟩)) :: (.pointer (some ⟨b, off + k * 2, none⟩)) :: (.string f.1) :: (.string (ofL (encT (toL f.1)))) :: (.string (ofL cur ++ ofL (encT (toL f.1)))) :: (.pointer (some ⟨w.heap.size, 2, none⟩)) :: (.slice (some ⟨b, off, none⟩) n c) :: (.int .i64 (k : Int)) :: (.pointer (some ⟨b, off + k * 2, none⟩)) :: (.pointer (some ⟨b, off + k * 2 + 1, none⟩)) :: (.string f.2) :: (.string (ofL (encT (toL f.2)))) :: (.string (ofL cur ++ ofL (encT (toL f.1)) ++ ofL (encT (toL f.2)))) :: [])) (fun W W' h1 h2 => h1.trans (h2.mono h1.size)) (fun i v W W' h _ => h) (Below.refl _ _).drew ?stepB ?tailB
            case stepB =>
              intro i o vs W hi ho hv hR hphi
              obtain ⟨v0, v1, v2, v3, v4, v5, v6, v7, v8, v9, v10, v11, v12, v13, v14, v15, v16, rfl⟩ := list17 hv
              simp only [List.zip, List.zipWith, putAll, Act.put, List.setIfInBounds_toArray, List.set]
              have hWz := hR.size
              have l2 := (hR.cell (p := ⟨w.heap.size, 2, none⟩) (by show w.heap.size < _; omega)).trans t2
              have m0 := (hR.cell (p := ⟨b, off + k * 2, none⟩) (by show b < _; omega)).trans y0
              have m1 := (hR.cell (p := ⟨b, off + k * 2 + 1, none⟩) (by show b < _; omega)).trans y1
              match i, hi, ho with
              | 0, _, rfl =>
                exact .inl ⟨rfl, gives_value (v := .string (ofL cur)) (w' := W) (by go_simp) ⟨Below.refl _ _, fun u hu => by cases hu; rfl⟩⟩
              | 1, _, rfl =>
                exact .inl ⟨rfl, gives_value (v := .pointer (some ⟨w.heap.size, 2, none⟩)) (w' := W) (by go_simp) ⟨Below.refl _ _, fun u hu => by cases hu; rfl⟩⟩
              | 2, _, rfl =>
                have e1 : v1 = _ := hphi ⟨1, .data⟩ (by simp) rfl v1 rfl _ rfl
                subst e1
                exact .inl ⟨rfl, gives_value (v := .slice (some ⟨b, off, none⟩) n c) (w' := W) (by go_simp) ⟨Below.refl _ _, fun u hu => by cases hu; rfl⟩⟩
              | 3, _, rfl =>
                exact .inl ⟨rfl, gives_value (v := .int .i64 (k : Int)) (w' := W) (by go_simp) ⟨Below.refl _ _, fun u hu => by cases hu; rfl⟩⟩
              | 4, _, rfl =>
                have e2 : v2 = _ := hphi ⟨2, .data⟩ (by simp) rfl v2 rfl _ rfl
                have e3 : v3 = _ := hphi ⟨3, .data⟩ (by simp) rfl v3 rfl _ rfl
                subst e2 e3
                exact .inl ⟨rfl, gives_value (v := .pointer (some ⟨b, off + k * 2, none⟩)) (w' := W) (by go_simp) ⟨Below.refl _ _, fun u hu => by cases hu; rfl⟩⟩
              | 5, _, rfl =>
                have e4 : v4 = _ := hphi ⟨4, .data⟩ (by simp) rfl v4 rfl _ rfl
                subst e4
                exact .inl ⟨rfl, gives_value (v := .pointer (some ⟨b, off + k * 2, none⟩)) (w' := W) (by go_simp) ⟨Below.refl _ _, fun u hu => by cases hu; rfl⟩⟩
              | 6, _, rfl =>
                have e5 : v5 = _ := hphi ⟨5, .data⟩ (by simp) rfl v5 rfl _ rfl
                subst e5
                exact .inl ⟨rfl, gives_value (v := .string f.1) (w' := W) (by go_simp) ⟨Below.refl _ _, fun u hu => by cases hu; rfl⟩⟩
              | 7, _, rfl =>
                have e6 : v6 = _ := hphi ⟨6, .data⟩ (by simp) rfl v6 rfl _ rfl
                subst e6
                refine .inl ⟨rfl, gives_call (f := 41) (args := #[.string (f.1)]) (by go_simp) ((rtxt_any (f.1) W (by omega)).mono ?_)⟩
                rintro e W' ⟨rfl, hb'⟩
                exact ⟨_, rfl, hb', fun u hu => by cases hu; rfl⟩
              | 8, _, rfl =>
                have e0 : v0 = _ := hphi ⟨0, .data⟩ (by simp) rfl v0 rfl _ rfl
                have e7 : v7 = _ := hphi ⟨7, .data⟩ (by simp) rfl v7 rfl _ rfl
                subst e0 e7
                exact .inl ⟨rfl, gives_value (v := .string (ofL cur ++ ofL (encT (toL f.1)))) (w' := W) (by go_simp) ⟨Below.refl _ _, fun u hu => by cases hu; rfl⟩⟩
              | 9, _, rfl =>
                exact .inl ⟨rfl, gives_value (v := .pointer (some ⟨w.heap.size, 2, none⟩)) (w' := W) (by go_simp) ⟨Below.refl _ _, fun u hu => by cases hu; rfl⟩⟩
              | 10, _, rfl =>
                have e9 : v9 = _ := hphi ⟨9, .data⟩ (by simp) rfl v9 rfl _ rfl
                subst e9
                exact .inl ⟨rfl, gives_value (v := .slice (some ⟨b, off, none⟩) n c) (w' := W) (by go_simp) ⟨Below.refl _ _, fun u hu => by cases hu; rfl⟩⟩
              | 11, _, rfl =>
                exact .inl ⟨rfl, gives_value (v := .int .i64 (k : Int)) (w' := W) (by go_simp) ⟨Below.refl _ _, fun u hu => by cases hu; rfl⟩⟩
              | 12, _, rfl =>
                have e10 : v10 = _ := hphi ⟨10, .data⟩ (by simp) rfl v10 rfl _ rfl
                have e11 : v11 = _ := hphi ⟨11, .data⟩ (by simp) rfl v11 rfl _ rfl
                subst e10 e11
                exact .inl ⟨rfl, gives_value (v := .pointer (some ⟨b, off + k * 2, none⟩)) (w' := W) (by go_simp) ⟨Below.refl _ _, fun u hu => by cases hu; rfl⟩⟩
              | 13, _, rfl =>
                have e12 : v12 = _ := hphi ⟨12, .data⟩ (by simp) rfl v12 rfl _ rfl
                subst e12
                exact .inl ⟨rfl, gives_value (v := .pointer (some ⟨b, off + k * 2 + 1, none⟩)) (w' := W) (by go_simp) ⟨Below.refl _ _, fun u hu => by cases hu; rfl⟩⟩
              | 14, _, rfl =>
                have e13 : v13 = _ := hphi ⟨13, .data⟩ (by simp) rfl v13 rfl _ rfl
                subst e13
                exact .inl ⟨rfl, gives_value (v := .string f.2) (w' := W) (by go_simp) ⟨Below.refl _ _, fun u hu => by cases hu; rfl⟩⟩
              | 15, _, rfl =>
                have e14 : v14 = _ := hphi ⟨14, .data⟩ (by simp) rfl v14 rfl _ rfl
                subst e14
                refine .inl ⟨rfl, gives_call (f := 41) (args := #[.string (f.2)]) (by go_simp) ((rtxt_any (f.2) W (by omega)).mono ?_)⟩
                rintro e W' ⟨rfl, hb'⟩
                exact ⟨_, rfl, hb', fun u hu => by cases hu; rfl⟩
              | 16, _, rfl =>
                have e8 : v8 = _ := hphi ⟨8, .data⟩ (by simp) rfl v8 rfl _ rfl
                have e15 : v15 = _ := hphi ⟨15, .data⟩ (by simp) rfl v15 rfl _ rfl
                subst e8 e15
                exact .inl ⟨rfl, gives_value (v := .string (ofL cur ++ ofL (encT (toL f.1)) ++ ofL (encT (toL f.2)))) (w' := W) (by go_simp) ⟨Below.refl _ _, fun u hu => by cases hu; rfl⟩⟩
              | i + 17, hi, _ => exact absurd hi (by omega)
            case tailB =>
              intro vs W hv hR hphi
              obtain ⟨v0, v1, v2, v3, v4, v5, v6, v7, v8, v9, v10, v11, v12, v13, v14, v15, v16, rfl⟩ := list17 hv
              simp only [List.zip, List.zipWith, putAll, Act.put, List.setIfInBounds_toArray, List.set, List.drop]
              have e0 : v0 = _ := hphi 0 v0 rfl _ rfl
              have e1 : v1 = _ := hphi 1 v1 rfl _ rfl
              have e2 : v2 = _ := hphi 2 v2 rfl _ rfl
              have e3 : v3 = _ := hphi 3 v3 rfl _ rfl
              have e4 : v4 = _ := hphi 4 v4 rfl _ rfl
              have e5 : v5 = _ := hphi 5 v5 rfl _ rfl
              have e6 : v6 = _ := hphi 6 v6 rfl _ rfl
              have e7 : v7 = _ := hphi 7 v7 rfl _ rfl
              have e8 : v8 = _ := hphi 8 v8 rfl _ rfl
              have e9 : v9 = _ := hphi 9 v9 rfl _ rfl
              have e10 : v10 = _ := hphi 10 v10 rfl _ rfl
              have e11 : v11 = _ := hphi 11 v11 rfl _ rfl
              have e12 : v12 = _ := hphi 12 v12 rfl _ rfl
              have e13 : v13 = _ := hphi 13 v13 rfl _ rfl
              have e14 : v14 = _ := hphi 14 v14 rfl _ rfl
              have e15 : v15 = _ := hphi 15 v15 rfl _ rfl
              have e16 : v16 = _ := hphi 16 v16 rfl _ rfl
              subst e0 e1 e2 e3 e4 e5 e6 e7 e8 e9 e10 e11 e12 e13 e14 e15 e16
              have HB5 : Hid (Below w.heap.size w W) := hBel.out.trans (hR.mono (by omega))
              have K5 := Lib.hid (hBk.out.below hR (by omega))
              rw [HN.out]
              clear hR g1 g2 s01 s0 s1 s2
              go_wp2_with fail
              go_roundw
              case rel => exact ⟨k + 1, by omega, by go_num, rfl, K5.out, HB5.out⟩
              case measure => simp [intOf]; omega
          · have hlz : ¬ (k : Int) < (n : Int) := by omega
            have HEQ : Hid (ofL (hd ++ encFs (fs.take k)) = ofL (encO true msg fs)) := by
              show _ = _
              rw [List.take_of_length_le (by rw [HL.out]; omega), HEO.out]
            go_wp2_with fail
            go_ret2
            exact HR.out _ HV.out _ _ (by rw [← HEQ.out]; rfl) hBel.out
    | false =>
      obtain rfl : fn = 0 := HFN0.out rfl
      obtain ⟨w3, hw3⟩ : ∃ w3, w2 = w3 := ⟨_, rfl⟩
      subst hw3
      have hz3 : w1.heap.size ≤ w2.heap.size := hz2
      have HB3 := HB2
      have K3 := K2
      obtain ⟨h0, hh0⟩ : ∃ h0, encN 0 = h0 := ⟨_, rfl⟩
      rw [hh0] at HEO ⊢
      have hl0 : h0.length ≤ 6 := by rw [← hh0]; exact encN_len 5 0 (by omega)
      clear K2 HB2 v0 hh0
      have u0 := K3.out.cell 0; have u1 := K3.out.cell 1; have u2 := K3.out.cell 2
      simp at u0 u1 u2
      have hw3z := K3.out.lt
      have s0 : (ofL h0).size ≤ 6 := by rw [size_ofL]; exact hl0
      have s1 : (ofL (encT (toL msg))).size ≤ 65542 := by rw [size_ofL]; exact encT_len _ (by rw [← size_toL]; omega)
      have s2 : (ofL (encN n)).size ≤ 6 := by rw [size_ofL]; exact encN_len 5 n (by omega)
      have s01 : (ofL h0 ++ ofL (encT (toL msg))).size = (ofL h0).size + (ofL (encT (toL msg))).size := ByteArray.size_append
      have g1 : ¬ 9223372036854775807 < (ofL h0).size + (ofL (encT (toL msg))).size := by omega
      have g3 : (ofL h0).size + (ofL (encT (toL msg))).size + (ofL (encN n)).size ≤ 9223372036854775807 := by omega
      have g2 : ¬ 9223372036854775807 < (ofL h0 ++ ofL (encT (toL msg))).size + (ofL (encN n)).size := by omega
      go_wp2_with fail
      refine wp_region_stableGD 10 (16 :: 17 :: 18 :: 19 :: 20 :: 21 :: 22 :: 23 :: 24 :: 25 :: []) (by kernel_rfl) (by kernel_rfl) (by kernel_rfl) (fun W => Below w2.heap.size w2 W) (fun W W' => Below W.heap.size W W')
        (vPhi ((.string (ofL h0)) :: (.pointer (some ⟨w.heap.size, 1, none⟩)) :: (.string msg) :: (.string (ofL (encT (toL msg)))) :: (.string (ofL h0 ++ ofL (encT (toL msg)))) :: (.pointer (some ⟨w.heap.size, 2, none⟩)) :: (.slice A n c) :: (.int .i64 (n : Int)) :: (.string (ofL (encN n))) :: (.string (ofL h0 ++ ofL (encT (toL msg)) ++ ofL (encN n))) :: [])) (fun W W' h1 h2 => h1.trans (h2.mono h1.size)) (fun i v W W' h _ => h) (Below.refl _ _).drew ?stepA ?tailA
      case stepA =>
        intro i o vs W hi ho hv hR hphi
        obtain ⟨v0, v1, v2, v3, v4, v5, v6, v7, v8, v9, rfl⟩ := list10 hv
        simp only [List.zip, List.zipWith, putAll, Act.put, List.setIfInBounds_toArray, List.set]
        have hWz := hR.size
        have l1 := (hR.cell (p := ⟨w.heap.size, 1, none⟩) (by show w.heap.size < _; omega)).trans u1
        have l2 := (hR.cell (p := ⟨w.heap.size, 2, none⟩) (by show w.heap.size < _; omega)).trans u2
        match i, hi, ho with
        | 0, _, rfl =>
          exact .inl ⟨rfl, gives_value (v := .string (ofL h0)) (w' := W) (by go_simp) ⟨Below.refl _ _, fun u hu => by cases hu; rfl⟩⟩
        | 1, _, rfl =>
          exact .inl ⟨rfl, gives_value (v := .pointer (some ⟨w.heap.size, 1, none⟩)) (w' := W) (by go_simp) ⟨Below.refl _ _, fun u hu => by cases hu; rfl⟩⟩
        | 2, _, rfl =>
          have e1 : v1 = _ := hphi ⟨1, .data⟩ (by simp) rfl v1 rfl _ rfl
          subst e1
          exact .inl ⟨rfl, gives_value (v := .string msg) (w' := W) (by go_simp) ⟨Below.refl _ _, fun u hu => by cases hu; rfl⟩⟩
        | 3, _, rfl =>
          have e2 : v2 = _ := hphi ⟨2, .data⟩ (by simp) rfl v2 rfl _ rfl
          subst e2
          refine .inl ⟨rfl, gives_call (f := 41) (args := #[.string (msg)]) (by go_simp) ((rtxt_any (msg) W (by omega)).mono ?_)⟩
          rintro e W' ⟨rfl, hb'⟩
          exact ⟨_, rfl, hb', fun u hu => by cases hu; rfl⟩
        | 4, _, rfl =>
          have e0 : v0 = _ := hphi ⟨0, .data⟩ (by simp) rfl v0 rfl _ rfl
          have e3 : v3 = _ := hphi ⟨3, .data⟩ (by simp) rfl v3 rfl _ rfl
          subst e0 e3
          exact .inl ⟨rfl, gives_value (v := .string (ofL h0 ++ ofL (encT (toL msg)))) (w' := W) (by go_simp) ⟨Below.refl _ _, fun u hu => by cases hu; rfl⟩⟩
        | 5, _, rfl =>
          exact .inl ⟨rfl, gives_value (v := .pointer (some ⟨w.heap.size, 2, none⟩)) (w' := W) (by go_simp) ⟨Below.refl _ _, fun u hu => by cases hu; rfl⟩⟩
        | 6, _, rfl =>
          have e5 : v5 = _ := hphi ⟨5, .data⟩ (by simp) rfl v5 rfl _ rfl
          subst e5
          exact .inl ⟨rfl, gives_value (v := .slice A n c) (w' := W) (by go_simp) ⟨Below.refl _ _, fun u hu => by cases hu; rfl⟩⟩
        | 7, _, rfl =>
          have e6 : v6 = _ := hphi ⟨6, .data⟩ (by simp) rfl v6 rfl _ rfl
          subst e6
          exact .inl ⟨rfl, gives_value (v := .int .i64 (n : Int)) (w' := W) (by go_simp) ⟨Below.refl _ _, fun u hu => by cases hu; rfl⟩⟩
        | 8, _, rfl =>
          have e7 : v7 = _ := hphi ⟨7, .data⟩ (by simp) rfl v7 rfl _ rfl
          subst e7
          refine .inl ⟨rfl, gives_call (f := 40) (args := #[.int .i64 (n : Int)]) (by go_simp) ((rnum_any n W (by omega)).mono ?_)⟩
          rintro e W' ⟨rfl, hb'⟩
          exact ⟨_, rfl, hb', fun u hu => by cases hu; rfl⟩
        | 9, _, rfl =>
          have e4 : v4 = _ := hphi ⟨4, .data⟩ (by simp) rfl v4 rfl _ rfl
          have e8 : v8 = _ := hphi ⟨8, .data⟩ (by simp) rfl v8 rfl _ rfl
          subst e4 e8
          exact .inl ⟨rfl, gives_value (v := .string (ofL h0 ++ ofL (encT (toL msg)) ++ ofL (encN n))) (w' := W) (by go_simp) ⟨Below.refl _ _, fun u hu => by cases hu; rfl⟩⟩
        | i + 10, hi, _ => exact absurd hi (by omega)
      case tailA =>
        intro vs W hv hR hphi
        obtain ⟨v0, v1, v2, v3, v4, v5, v6, v7, v8, v9, rfl⟩ := list10 hv
        simp only [List.zip, List.zipWith, putAll, Act.put, List.setIfInBounds_toArray, List.set, List.drop]
        have e0 : v0 = _ := hphi 0 v0 rfl _ rfl
        have e1 : v1 = _ := hphi 1 v1 rfl _ rfl
        have e2 : v2 = _ := hphi 2 v2 rfl _ rfl
        have e3 : v3 = _ := hphi 3 v3 rfl _ rfl
        have e4 : v4 = _ := hphi 4 v4 rfl _ rfl
        have e5 : v5 = _ := hphi 5 v5 rfl _ rfl
        have e6 : v6 = _ := hphi 6 v6 rfl _ rfl
        have e7 : v7 = _ := hphi 7 v7 rfl _ rfl
        have e8 : v8 = _ := hphi 8 v8 rfl _ rfl
        have e9 : v9 = _ := hphi 9 v9 rfl _ rfl
        subst e0 e1 e2 e3 e4 e5 e6 e7 e8 e9
        have HB4 : Hid (Below w.heap.size w W) := HB3.out.trans (hR.mono (by omega))
        have K4 := Lib.hid (K3.out.below hR (by omega))
        obtain ⟨hd, hhd⟩ : ∃ hd, h0 ++ encT (toL msg) ++ encN n = hd := ⟨_, rfl⟩
        have e10 : ofL h0 ++ ofL (encT (toL msg)) ++ ofL (encN n) = ofL hd := by rw [ofL_append, ofL_append, hhd]
        rw [e10]
        have hld : hd.length ≤ 80000 := by
          rw [← hhd, List.length_append, List.length_append]
          rw [size_ofL] at s0 s1 s2; omega
        rw [hhd] at HEO
        clear e10 hhd g1 g2 s01 s0 s1 s2 u0 u1 u2 K3 HB3 hR
        go_wp2_with fail
        go_loopw [5, 6] (fun q5 q6 wr => ∃ k : Nat, k ≤ n ∧ q6 = .int .i64 k ∧ q5 = .string (ofL (hd ++ encFs (fs.take k))) ∧ Hid (Bk wr w.heap.size 50 #[.bool false, .string msg, .slice A n c]) ∧ Hid (Below w.heap.size w wr)) (fun _ q6 _ => n - (intOf q6).toNat)
        case atStart => exact ⟨0, Nat.zero_le _, rfl, by simp [encFs], K4.out, HB4.out⟩
        case round =>
          obtain ⟨k, hk, rfl, rfl, hBk, hBel⟩ := hrel
          have hwr := hBel.out.size
          have hoz := hBk.out.lt
          have t2 := hBk.out.cell 2; simp at t2
          by_cases hlt : k < n
          · obtain ⟨b, off, f, rfl, hb, hf, y0, y1⟩ := (H0.out.below hBel.out hB).fl hlt
            have hlz : (k : Int) < (n : Int) := by omega
            have hft := HFL.out f (List.mem_of_getElem? hf)
            have HSN := Lib.hid (encFs_snoc hf)
            have hln : (encFs (fs.take k)).length ≤ 1310840 := by
              have h1 := encFs_len (fs := fs.take k) (fun g hg => HFL.out g (List.mem_of_mem_take hg))
              rw [List.length_take] at h1
              have h2 : min k fs.length ≤ 10 := by omega
              exact Nat.le_trans h1 (Nat.mul_le_mul_right _ h2)
            obtain ⟨cur, hcur⟩ : ∃ cur, hd ++ encFs (fs.take k) = cur := ⟨_, rfl⟩
            have s0 : (ofL cur).size ≤ 1400000 := by rw [size_ofL, ← hcur, List.length_append]; omega
            have s1 : (ofL (encT (toL f.1))).size ≤ 65542 := by rw [size_ofL]; exact encT_len _ (by rw [← size_toL]; omega)
            have s2 : (ofL (encT (toL f.2))).size ≤ 65542 := by rw [size_ofL]; exact encT_len _ (by rw [← size_toL]; omega)
            have s01 : (ofL cur ++ ofL (encT (toL f.1))).size = (ofL cur).size + (ofL (encT (toL f.1))).size := ByteArray.size_append
            have g1 : ¬ 9223372036854775807 < (ofL cur).size + (ofL (encT (toL f.1))).size := by omega
            have g3 : (ofL cur).size + (ofL (encT (toL f.1))).size + (ofL (encT (toL f.2))).size ≤ 9223372036854775807 := by omega
            have g2 : ¬ 9223372036854775807 < (ofL cur ++ ofL (encT (toL f.1))).size + (ofL (encT (toL f.2))).size := by omega
            have HN : Hid (ofL cur ++ ofL (encT (toL f.1)) ++ ofL (encT (toL f.2)) = ofL (hd ++ encFs (fs.take (k + 1)))) := by
              show _ = _
              rw [ofL_append, ofL_append, HSN.out, ← hcur, List.append_assoc, List.append_assoc, List.append_assoc]
            rw [hcur]
            clear hcur HSN hf
            go_wp2_with fail
            refine wp_region_stableGD 17 (33 :: 34 :: 35 :: 36 :: 37 :: 38 :: 39 :: 40 :: 41 :: 42 :: 43 :: 44 :: 45 :: 46 :: 47 :: 48 :: 49 :: []) (by kernel_rfl) (by kernel_rfl) (by kernel_rfl) (fun W => Below wr.heap.size wr W) (fun W W' => Below W.heap.size W W')
              (vPhi ((.string (ofL cur)) :: (.pointer (some ⟨w.heap.size, 2, none⟩)) :: (.slice (some ⟨b, off, none⟩) n c) :: (.int .i64 (k : Int)) :: (.pointer (some ⟨b, off + k * 2, none⟩)) :: (.pointer (some ⟨b, off + k * 2, none⟩)) :: (.string f.1) :: (.string (ofL (encT (toL f.1)))) :: (.string (ofL cur ++ ofL (encT (toL f.1)))) :: (.pointer (some ⟨w.heap.size, 2, none⟩)) :: (.slice (some ⟨b, off, none⟩) n c) :: (.int .i64 (k : Int)) :: (.pointer (some ⟨b, off + k * 2, none⟩)) :: (.pointer (some ⟨b, off + k * 2 + 1, none⟩)) :: (.string f.2) :: (.string (ofL (encT (toL f.2)))) :: (.string (ofL cur ++ ofL (encT (toL f.1)) ++ ofL (encT (toL f.2)))) :: [])) (fun W W' h1 h2 => h1.trans (h2.mono h1.size)) (fun i v W W' h _ => h) (Below.refl _ _).drew ?stepB ?tailB
            case stepB =>
              intro i o vs W hi ho hv hR hphi
              obtain ⟨v0, v1, v2, v3, v4, v5, v6, v7, v8, v9, v10, v11, v12, v13, v14, v15, v16, rfl⟩ := list17 hv
              simp only [List.zip, List.zipWith, putAll, Act.put, List.setIfInBounds_toArray, List.set]
              have hWz := hR.size
              have l2 := (hR.cell (p := ⟨w.heap.size, 2, none⟩) (by show w.heap.size < _; omega)).trans t2
              have m0 := (hR.cell (p := ⟨b, off + k * 2, none⟩) (by show b < _; omega)).trans y0
              have m1 := (hR.cell (p := ⟨b, off + k * 2 + 1, none⟩) (by show b < _; omega)).trans y1
              match i, hi, ho with
              | 0, _, rfl =>
                exact .inl ⟨rfl, gives_value (v := .string (ofL cur)) (w' := W) (by go_simp) ⟨Below.refl _ _, fun u hu => by cases hu; rfl⟩⟩
              | 1, _, rfl =>
                exact .inl ⟨rfl, gives_value (v := .pointer (some ⟨w.heap.size, 2, none⟩)) (w' := W) (by go_simp) ⟨Below.refl _ _, fun u hu => by cases hu; rfl⟩⟩
              | 2, _, rfl =>
                have e1 : v1 = _ := hphi ⟨1, .data⟩ (by simp) rfl v1 rfl _ rfl
                subst e1
                exact .inl ⟨rfl, gives_value (v := .slice (some ⟨b, off, none⟩) n c) (w' := W) (by go_simp) ⟨Below.refl _ _, fun u hu => by cases hu; rfl⟩⟩
              | 3, _, rfl =>
                exact .inl ⟨rfl, gives_value (v := .int .i64 (k : Int)) (w' := W) (by go_simp) ⟨Below.refl _ _, fun u hu => by cases hu; rfl⟩⟩
              | 4, _, rfl =>
                have e2 : v2 = _ := hphi ⟨2, .data⟩ (by simp) rfl v2 rfl _ rfl
                have e3 : v3 = _ := hphi ⟨3, .data⟩ (by simp) rfl v3 rfl _ rfl
                subst e2 e3
                exact .inl ⟨rfl, gives_value (v := .pointer (some ⟨b, off + k * 2, none⟩)) (w' := W) (by go_simp) ⟨Below.refl _ _, fun u hu => by cases hu; rfl⟩⟩
              | 5, _, rfl =>
                have e4 : v4 = _ := hphi ⟨4, .data⟩ (by simp) rfl v4 rfl _ rfl
                subst e4
                exact .inl ⟨rfl, gives_value (v := .pointer (some ⟨b, off + k * 2, none⟩)) (w' := W) (by go_simp) ⟨Below.refl _ _, fun u hu => by cases hu; rfl⟩⟩
              | 6, _, rfl =>
                have e5 : v5 = _ := hphi ⟨5, .data⟩ (by simp) rfl v5 rfl _ rfl
                subst e5
                exact .inl ⟨rfl, gives_value (v := .string f.1) (w' := W) (by go_simp) ⟨Below.refl _ _, fun u hu => by cases hu; rfl⟩⟩
              | 7, _, rfl =>
                have e6 : v6 = _ := hphi ⟨6, .data⟩ (by simp) rfl v6 rfl _ rfl
                subst e6
                refine .inl ⟨rfl, gives_call (f := 41) (args := #[.string (f.1)]) (by go_simp) ((rtxt_any (f.1) W (by omega)).mono ?_)⟩
                rintro e W' ⟨rfl, hb'⟩
                exact ⟨_, rfl, hb', fun u hu => by cases hu; rfl⟩
              | 8, _, rfl =>
                have e0 : v0 = _ := hphi ⟨0, .data⟩ (by simp) rfl v0 rfl _ rfl
                have e7 : v7 = _ := hphi ⟨7, .data⟩ (by simp) rfl v7 rfl _ rfl
                subst e0 e7
                exact .inl ⟨rfl, gives_value (v := .string (ofL cur ++ ofL (encT (toL f.1)))) (w' := W) (by go_simp) ⟨Below.refl _ _, fun u hu => by cases hu; rfl⟩⟩
              | 9, _, rfl =>
                exact .inl ⟨rfl, gives_value (v := .pointer (some ⟨w.heap.size, 2, none⟩)) (w' := W) (by go_simp) ⟨Below.refl _ _, fun u hu => by cases hu; rfl⟩⟩
              | 10, _, rfl =>
                have e9 : v9 = _ := hphi ⟨9, .data⟩ (by simp) rfl v9 rfl _ rfl
                subst e9
                exact .inl ⟨rfl, gives_value (v := .slice (some ⟨b, off, none⟩) n c) (w' := W) (by go_simp) ⟨Below.refl _ _, fun u hu => by cases hu; rfl⟩⟩
              | 11, _, rfl =>
                exact .inl ⟨rfl, gives_value (v := .int .i64 (k : Int)) (w' := W) (by go_simp) ⟨Below.refl _ _, fun u hu => by cases hu; rfl⟩⟩
              | 12, _, rfl =>
                have e10 : v10 = _ := hphi ⟨10, .data⟩ (by simp) rfl v10 rfl _ rfl
                have e11 : v11 = _ := hphi ⟨11, .data⟩ (by simp) rfl v11 rfl _ rfl
                subst e10 e11
                exact .inl ⟨rfl, gives_value (v := .pointer (some ⟨b, off + k * 2, none⟩)) (w' := W) (by go_simp) ⟨Below.refl _ _, fun u hu => by cases hu; rfl⟩⟩
              | 13, _, rfl =>
                have e12 : v12 = _ := hphi ⟨12, .data⟩ (by simp) rfl v12 rfl _ rfl
                subst e12
                exact .inl ⟨rfl, gives_value (v := .pointer (some ⟨b, off + k * 2 + 1, none⟩)) (w' := W) (by go_simp) ⟨Below.refl _ _, fun u hu => by cases hu; rfl⟩⟩
              | 14, _, rfl =>
                have e13 : v13 = _ := hphi ⟨13, .data⟩ (by simp) rfl v13 rfl _ rfl
                subst e13
                exact .inl ⟨rfl, gives_value (v := .string f.2) (w' := W) (by go_simp) ⟨Below.refl _ _, fun u hu => by cases hu; rfl⟩⟩
              | 15, _, rfl =>
                have e14 : v14 = _ := hphi ⟨14, .data⟩ (by simp) rfl v14 rfl _ rfl
                subst e14
                refine .inl ⟨rfl, gives_call (f := 41) (args := #[.string (f.2)]) (by go_simp) ((rtxt_any (f.2) W (by omega)).mono ?_)⟩
                rintro e W' ⟨rfl, hb'⟩
                exact ⟨_, rfl, hb', fun u hu => by cases hu; rfl⟩
              | 16, _, rfl =>
                have e8 : v8 = _ := hphi ⟨8, .data⟩ (by simp) rfl v8 rfl _ rfl
                have e15 : v15 = _ := hphi ⟨15, .data⟩ (by simp) rfl v15 rfl _ rfl
                subst e8 e15
                exact .inl ⟨rfl, gives_value (v := .string (ofL cur ++ ofL (encT (toL f.1)) ++ ofL (encT (toL f.2)))) (w' := W) (by go_simp) ⟨Below.refl _ _, fun u hu => by cases hu; rfl⟩⟩
              | i + 17, hi, _ => exact absurd hi (by omega)
            case tailB =>
              intro vs W hv hR hphi
              obtain ⟨v0, v1, v2, v3, v4, v5, v6, v7, v8, v9, v10, v11, v12, v13, v14, v15, v16, rfl⟩ := list17 hv
              simp only [List.zip, List.zipWith, putAll, Act.put, List.setIfInBounds_toArray, List.set, List.drop]
              have e0 : v0 = _ := hphi 0 v0 rfl _ rfl
              have e1 : v1 = _ := hphi 1 v1 rfl _ rfl
              have e2 : v2 = _ := hphi 2 v2 rfl _ rfl
              have e3 : v3 = _ := hphi 3 v3 rfl _ rfl
              have e4 : v4 = _ := hphi 4 v4 rfl _ rfl
              have e5 : v5 = _ := hphi 5 v5 rfl _ rfl
              have e6 : v6 = _ := hphi 6 v6 rfl _ rfl
              have e7 : v7 = _ := hphi 7 v7 rfl _ rfl
              have e8 : v8 = _ := hphi 8 v8 rfl _ rfl
              have e9 : v9 = _ := hphi 9 v9 rfl _ rfl
              have e10 : v10 = _ := hphi 10 v10 rfl _ rfl
              have e11 : v11 = _ := hphi 11 v11 rfl _ rfl
              have e12 : v12 = _ := hphi 12 v12 rfl _ rfl
              have e13 : v13 = _ := hphi 13 v13 rfl _ rfl
              have e14 : v14 = _ := hphi 14 v14 rfl _ rfl
              have e15 : v15 = _ := hphi 15 v15 rfl _ rfl
              have e16 : v16 = _ := hphi 16 v16 rfl _ rfl
              subst e0 e1 e2 e3 e4 e5 e6 e7 e8 e9 e10 e11 e12 e13 e14 e15 e16
              have HB5 : Hid (Below w.heap.size w W) := hBel.out.trans (hR.mono (by omega))
              have K5 := Lib.hid (hBk.out.below hR (by omega))
              rw [HN.out]
              clear hR g1 g2 s01 s0 s1 s2
              go_wp2_with fail
              go_roundw
              case rel => exact ⟨k + 1, by omega, by go_num, rfl, K5.out, HB5.out⟩
              case measure => simp [intOf]; omega
          · have hlz : ¬ (k : Int) < (n : Int) := by omega
            have HEQ : Hid (ofL (hd ++ encFs (fs.take k)) = ofL (encO false msg fs)) := by
              show _ = _
              rw [List.take_of_length_le (by rw [HL.out]; omega), HEO.out]
            go_wp2_with fail
            go_ret2
            exact HR.out _ HV.out _ _ (by rw [← HEQ.out]; rfl) hBel.out
  · have HV : Hid (encOR fd msg fs = ([], chkO fd msg fs)) := by show _ = _; unfold encOR; rw [if_neg hc]
    have hcb : (chkO fd msg fs != 0) = true := by rw [bne_iff_ne]; exact hc
    clear hc
    go_wp2_with fail
    go_ret2
    exact HR.out _ HV.out _ _ rfl HB1.out
end Go.Proofs.YtiphbincnnppdaaGreatDoor
