/-
  The name of a ref: names joined by slashes. Plain lemmas on splitting, and cordwoodref11.ValidName answers `nameB`.
-/
import Derived.Test.YtikmiabncbhioaaDoorNames
namespace Go.Proofs.YtikmiabncbhioaaDoor
open Go.RowKit

/-- The parts of a list of bytes between slashes. -/
def splitS : List UInt8 → List (List UInt8)
  | [] => [[]]
  | c :: r => if c = 47 then [] :: splitS r else match splitS r with
    | [] => [[c]]
    | h :: t => (c :: h) :: t
theorem splitS_ne (l : List UInt8) : splitS l ≠ [] := by
  cases l with
  | nil => simp [splitS]
  | cons c r => unfold splitS; split; simp; split <;> simp
theorem splitS_last (seg : List UInt8) (h : ∀ c ∈ seg, c ≠ 47) : splitS seg = [seg] := by
  induction seg with
  | nil => rfl
  | cons c r ih =>
    unfold splitS
    rw [if_neg (h c (by simp)), ih (fun d hd => h d (by simp [hd]))]
theorem splitS_seg (seg r : List UInt8) (h : ∀ c ∈ seg, c ≠ 47) : splitS (seg ++ 47 :: r) = seg :: splitS r := by
  induction seg with
  | nil => rw [List.nil_append, splitS, if_pos rfl]
  | cons c t ih =>
    rw [List.cons_append, splitS, if_neg (h c (by simp)), ih (fun d hd => h d (by simp [hd]))]

def nameL (l : List UInt8) : Bool := decide (l.length ≤ 100) && (splitS l).all validL
def nameB (s : ByteArray) : Bool := nameL s.data.toList

/-- Between rounds: the parts ahead of `k` are valid, and from k to i there is no slash. -/
def InName (l : List UInt8) (k i : Nat) : Prop := k ≤ i ∧ i ≤ l.length + 1 ∧ (k ≤ l.length → (splitS l).all validL = (splitS (l.drop k)).all validL) ∧ (l.length < k → (splitS l).all validL = true) ∧ ∀ j, k ≤ j → j < i → l[j]? ≠ some 47

theorem inName_start (l : List UInt8) : InName l 0 0 := ⟨Nat.le_refl _, by omega, fun _ => by simp, fun h => absurd h (by omega), fun j _ h2 => absurd h2 (by omega)⟩
theorem inName_on {l : List UInt8} {k i : Nat} (h : InName l k i) (hi : i < l.length) (hc : l[i]? ≠ some 47) : InName l k (i + 1) := by
  obtain ⟨h1, h2, h3, h4, h5⟩ := h
  refine ⟨by omega, by omega, h3, h4, fun j hj1 hj2 => ?_⟩
  by_cases e : j = i
  · subst e; exact hc
  · exact h5 j hj1 (by omega)
theorem seg_free {l : List UInt8} {k i : Nat} (h : InName l k i) : ∀ c ∈ (l.drop k).take (i - k), c ≠ 47 := by
  intro c hc e
  subst e
  obtain ⟨j, hj, hv⟩ := List.getElem_of_mem hc
  have hj' : j < i - k := by simp at hj; omega
  have := h.2.2.2.2 (k + j) (by omega) (by omega)
  apply this
  rw [← hv, List.getElem_take, List.getElem_drop]
  exact List.getElem?_eq_getElem _
/-- At a slash: the part is cut off. -/
theorem inName_cut {l : List UInt8} {k i : Nat} (h : InName l k i) (hi : l[i]? = some 47) :
    (splitS l).all validL = (validL ((l.drop k).take (i - k)) && (splitS (l.drop (i + 1))).all validL) := by
  have hil : i < l.length := (List.getElem?_eq_some_iff.1 hi).1
  have hk : k ≤ l.length := by have := h.1; omega
  rw [h.2.2.1 hk]
  have e : l.drop k = (l.drop k).take (i - k) ++ 47 :: l.drop (i + 1) := by
    conv => lhs; rw [← List.take_append_drop (i - k) (l.drop k)]
    congr 1
    rw [List.drop_drop, show k + (i - k) = i from by have := h.1; omega, List.drop_eq_getElem_cons hil]
    congr 1
    exact (List.getElem?_eq_some_iff.1 hi).2
  conv => lhs; rw [e, splitS_seg _ _ (seg_free h)]
  simp
/-- At the end: the last part. -/
theorem inName_end {l : List UInt8} {k : Nat} (h : InName l k l.length) : (splitS l).all validL = validL ((l.drop k).take (l.length - k)) := by
  have hf := seg_free h
  rw [h.2.2.1 h.1]
  have e : (l.drop k).take (l.length - k) = l.drop k := List.take_of_length_le (by simp)
  rw [e] at hf ⊢
  rw [splitS_last _ hf]; simp

theorem name_long (s : ByteArray) (h : 100 < (s.size : Int)) : nameB s = false := by
  have := size_len s
  simp [nameB, nameL]; intro h1; omega
theorem name_short (s : ByteArray) (h : (s.size : Int) ≤ 100) : nameB s = (splitS s.data.toList).all validL := by
  have hl := size_len s
  unfold nameB nameL
  rw [decide_eq_true (by omega : s.data.toList.length ≤ 100), Bool.true_and]
theorem extract_list (s : ByteArray) (k i : Nat) : (s.extract k i).data.toList = (s.data.toList.drop k).take (i - k) := by
  simp [ByteArray.data_extract]

set_option maxHeartbeats 400000 in
theorem refName_any (s : ByteArray) (w : World) (hs : s.size ≤ maxLen) :
    Calls Tryd.prog 38 #[.string s] w fun e w' => e = .returned (.bool (nameB s)) ∧ w = w' := by
  unfold maxLen at hs
  by_cases c1 : 100 < (s.size : Int)
  · have hv := Lib.hid (name_long s c1)
    go_enter Tryd.func38, Tryd.ntmps38
    go_wp2_with fail
    go_ret
    exact ⟨ret_bool hv.out.symm, rfl⟩
  have c1' : (s.size : Int) ≤ 100 := by omega
  have HN := Lib.hid (name_short s c1')
  have HL := Lib.hid (size_len s)
  go_enter Tryd.func38, Tryd.ntmps38
  go_wp2_with fail
  go_loop [3, 4] (fun f i => ∃ k j : Nat, k ≤ s.size + 1 ∧ j ≤ s.size + 1 ∧ k ≤ j ∧ f = .int .i64 k ∧ i = .int .i64 j ∧ Hid (InName s.data.toList k j) ∧ Hid (s.size < j → (splitS s.data.toList).all validL = true)) (fun _ i => s.size + 1 - (intOf i).toNat)
  case atStart => exact ⟨0, 0, by omega, by omega, by omega, rfl, rfl, inName_start _, fun h => absurd h (by omega)⟩
  case round =>
    obtain ⟨k, j, hk, hj, hkj, rfl, rfl, hI, hE⟩ := hrel
    by_cases hlt : j < s.size
    · have hg := Lib.hid (get_data s j hlt)
      by_cases h47 : s[j] = 47
      · have t1 : (((s[j].toNat : Nat) : Int) != 47) = false := by simp [h47]
        have hcut := Lib.hid (inName_cut hI.out (by rw [hg.out, h47]))
        rw [← extract_list] at hcut
        have HF := Lib.hid h47
        clear h47
        cases hv : validB (s.extract k j) with
        | false =>
          have hF : Hid (nameB s = false) := by
            show _ = false
            rw [HN.out, hcut.out, show validL (s.extract k j).data.toList = false from hv, Bool.false_and]
          have HV := Lib.hid hv
          clear hv hcut hI hE hg
          go_wp2_with (go_at_call 67; refine (valid7_any _ _).mono ?_; rintro e w' ⟨rfl, rfl⟩; rw [HV.out])
          go_ret
          exact ⟨ret_bool hF.out.symm, rfl⟩
        | true =>
          have hF : Hid (InName s.data.toList (j + 1) (j + 1)) := by
            refine ⟨Nat.le_refl _, by have := HL.out; omega, fun _ => ?_, fun h => ?_, fun i h1 h2 => absurd h2 (by omega)⟩
            · rw [hcut.out, show validL (s.extract k j).data.toList = true from hv, Bool.true_and]
            · have := HL.out; omega
          have HV := Lib.hid hv
          clear hv hcut hI hE hg
          go_wp2_with (go_at_call 67; refine (valid7_any _ _).mono ?_; rintro e w' ⟨rfl, rfl⟩; rw [HV.out])
          go_round
          case rel => exact ⟨j + 1, j + 1, by omega, by omega, by omega, by go_num, by go_num, hF, fun h => absurd h (by omega)⟩
          case measure => simp [intOf]; omega
      · have t1 : (((s[j].toNat : Nat) : Int) != 47) = true := by
          rw [bne_iff_ne]; intro e
          apply h47
          apply UInt8.toNat_inj.1
          show s[j].toNat = 47
          omega
        have hF := Lib.hid (inName_on hI.out (by rw [← size_len]; exact hlt) (by rw [hg.out]; intro e; exact h47 (Option.some.inj e)))
        clear h47 hI hE hg
        go_wp2_with fail
        go_round
        case rel => exact ⟨k, j + 1, by omega, by omega, by omega, rfl, by go_num, hF, fun h => absurd h (by omega)⟩
        case measure => simp [intOf]; omega
    · by_cases hje : j = s.size
      · have hend : Hid ((splitS s.data.toList).all validL = validL (s.extract k j).data.toList) := by
          show _ = _
          have hI' := hI.out
          rw [extract_list, hje, HL.out]
          exact inName_end (by rw [← HL.out, ← hje]; exact hI')
        have hjle : j ≤ s.size := by omega
        have t1 : decide (j < s.size) = false := by simp; omega
        clear hje
        cases hv : validB (s.extract k j) with
        | false =>
          have hF : Hid (nameB s = false) := by
            show _ = false
            rw [HN.out, hend.out]; exact hv
          have HV := Lib.hid hv
          clear hv hend hI hE
          go_wp2_with (go_at_call 67; refine (valid7_any _ _).mono ?_; rintro e w' ⟨rfl, rfl⟩; rw [HV.out])
          go_ret
          exact ⟨ret_bool hF.out.symm, rfl⟩
        | true =>
          have hA : Hid ((splitS s.data.toList).all validL = true) := by
            show _ = true
            rw [hend.out]; exact hv
          have HV := Lib.hid hv
          clear hv hend hI hE
          go_wp2_with (go_at_call 67; refine (valid7_any _ _).mono ?_; rintro e w' ⟨rfl, rfl⟩; rw [HV.out])
          go_round
          case rel => exact ⟨j + 1, j + 1, by omega, by omega, by omega, by go_num, by go_num, ⟨Nat.le_refl _, by have := HL.out; omega, fun h => absurd h (by have := HL.out; omega), fun _ => hA.out, fun i h1 h2 => absurd h2 (by omega)⟩, fun _ => hA.out⟩
          case measure => simp [intOf]; omega
      · have hF : Hid (nameB s = true) := by
          show _ = true
          rw [HN.out]; exact hE.out (by omega)
        clear hI hE
        go_wp2_with fail
        go_ret
        exact ⟨ret_bool hF.out.symm, rfl⟩
end Go.Proofs.YtikmiabncbhioaaDoor
