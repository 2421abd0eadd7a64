/-
  Lemmas: The reference's check of one rule: what may stand in Visible. Lists of a known length, taken apart.
-/
import Derived.BigQuiet
import Derived.Test.YtiphbincnnppdaaGreatDoorU13

namespace Go.Proofs.YtiphbincnnppdaaGreatDoor
open Go.RowKit Go.Shelf

theorem splitS_snoc (l : List UInt8) : splitS (l ++ [47]) = splitS l ++ [[]] := by
  induction l with
  | nil => rfl
  | cons c r ih =>
    rw [List.cons_append]; unfold splitS; rw [ih]
    by_cases h : c = 47
    · simp [h]
    · simp only [if_neg h]
      cases hs : splitS r with
      | nil => exact absurd hs (splitS_ne r)
      | cons a b => rfl
theorem labL_slash (l : List UInt8) : labL (l ++ [47]) = false := by
  unfold labL
  rw [splitS_snoc, List.all_append]
  simp [partL, wordL]
/-- the reference's way to say what may stand in Visible -/
def seenB (s : ByteArray) : Bool := decide (s = starW) || (frlB s || (decide (1 < s.size) && (Lib.hasSuffix (bl s) [47] && labL ((bl s).take (s.size - 1)))))
theorem seen_view (s : ByteArray) : seenB s = viewB s := by
  have hsz := size_len s
  have hb : bl s = s.data.toList := rfl
  unfold viewB seenB
  by_cases h : Lib.hasSuffix (bl s) [47] = true
  · rw [if_pos h]
    obtain ⟨m, hm⟩ := List.isSuffixOf_iff_suffix.1 h
    have hl : labB s = false := by unfold labB; rw [← hm]; exact labL_slash m
    have hf : frlB s = false := by unfold frlB; rw [hl]; rfl
    have hs : decide (s = starW) = false := by
      rw [decide_eq_false_iff_not]; intro e
      rw [e] at hm
      have : (bl starW) = [] ++ [42] := rfl
      rw [this] at hm
      have := List.append_inj_right' hm rfl
      cases this
    have ht : Lib.trimSuffix (bl s) [47] = m := by
      unfold Lib.trimSuffix; rw [if_pos h, ← hm]; simp
    have hn : s.size = m.length + 1 := by rw [hsz, ← hb, ← hm]; simp
    rw [hs, hf, ht, h, hn]
    have e2 : (bl s).take (m.length + 1 - 1) = m := by rw [← hm]; simp
    rw [e2]
    cases m with
    | nil => rfl
    | cons a r => simp
  · rw [if_neg h]
    have h' : Lib.hasSuffix (bl s) [47] = false := by cases hc : Lib.hasSuffix (bl s) [47] with | true => exact absurd hc h | false => rfl
    rw [h']; simp
theorem suffix_at (s : ByteArray) (k : Nat) (h : s.size = k + 1) : Lib.hasSuffix (bl s) [47] = decide ((bl s)[k]? = some 47) := by
  have hsz := size_len s
  have hb : bl s = s.data.toList := rfl
  rw [Bool.eq_iff_iff, decide_eq_true_iff]
  constructor
  · intro h1
    obtain ⟨m, hm⟩ := List.isSuffixOf_iff_suffix.1 h1
    have : m.length = k := by rw [hb.symm, ← hm] at hsz; simp at hsz; omega
    rw [← hm, ← this]; simp
  · intro h1
    refine List.isSuffixOf_iff_suffix.2 ⟨(bl s).take k, ?_⟩
    have h2 := List.getElem?_eq_some_iff.1 h1
    have h3 := List.take_append_drop k (bl s)
    rw [List.drop_eq_getElem_cons h2.1, h2.2, List.drop_of_length_le (by rw [hb]; omega)] at h3
    exact h3

set_option maxHeartbeats 400000 in
theorem rreserved_any (s : ByteArray) (w : World) : Calls Tryz.prog 144 #[.string s] w fun e w' => e = .returned (.bool (resB s)) ∧ w = w' := by
  have h1 : (s.toList == [100, 101, 112, 115]) = decide (s = depsW) := str_lit s _; have h2 : (s.toList == [118, 105, 115, 105, 98, 108, 101]) = decide (s = visibleW) := str_lit s _
  by_cases e1 : s = depsW
  · have hv : Hid (resB s = true) := by show _ = _; unfold resB; rw [decide_eq_true e1]; rfl
    rw [decide_eq_true e1] at h1
    have h1' : (s.toList == [100, 101, 112, 115]) = true := h1
    clear h1 h2 e1
    go_enter Tryz.func144, Tryz.ntmps144
    go_wp2
    go_ret
    exact ⟨ret_bool hv.out.symm, rfl⟩
  · rw [decide_eq_false e1] at h1
    have h1' : (s.toList == [100, 101, 112, 115]) = false := h1
    by_cases e2 : s = visibleW
    · have hv : Hid (resB s = true) := by show _ = _; unfold resB; rw [decide_eq_true e2]; simp
      rw [decide_eq_true e2] at h2
      have h2' : (s.toList == [118, 105, 115, 105, 98, 108, 101]) = true := h2
      clear h1 h2 e1 e2
      go_enter Tryz.func144, Tryz.ntmps144
      go_wp2
      go_ret
      exact ⟨ret_bool hv.out.symm, rfl⟩
    · have hv : Hid (resB s = false) := by show _ = _; unfold resB; rw [decide_eq_false e1, decide_eq_false e2]; rfl
      rw [decide_eq_false e2] at h2
      have h2' : (s.toList == [118, 105, 115, 105, 98, 108, 101]) = false := h2
      clear h1 h2 e1 e2
      go_enter Tryz.func144, Tryz.ntmps144
      go_wp2
      go_ret
      exact ⟨ret_bool hv.out.symm, rfl⟩
set_option maxHeartbeats 400000 in
theorem rfree_any (s : ByteArray) (w : World) (hs : s.size ≤ maxLen) : Calls Tryz.prog 155 #[.string s] w fun e w' => e = .returned (.bool (frlB s)) ∧ w = w' := by
  go_enter Tryz.func155, Tryz.ntmps155
  cases hl : labB s with
  | false =>
    have hv : Hid (frlB s = false) := by show _ = _; unfold frlB; rw [hl]; rfl
    have HL := Lib.hid hl
    clear hl
    go_wp2_with (go_at_call 38; refine (rlabel_any _ _ hs).mono ?_; rintro e w1 ⟨rfl, rfl⟩; rw [HL.out])
    go_ret
    exact ⟨ret_bool hv.out.symm, rfl⟩
  | true =>
    have hv : Hid (frlB s = !resB s) := by show _ = _; unfold frlB; rw [hl]; rfl
    have HL := Lib.hid hl
    clear hl
    go_wp2_with (first
      | (go_at_call 38; refine (rlabel_any _ _ hs).mono ?_; rintro e w1 ⟨rfl, rfl⟩; rw [HL.out])
      | (go_at_call 144; refine (rreserved_any _ _).mono ?_; rintro e w2 ⟨rfl, rfl⟩))
    go_ret
    exact ⟨ret_bool hv.out.symm, rfl⟩
set_option maxHeartbeats 1000000 in
theorem rseen_any (s : ByteArray) (w : World) (hs : s.size ≤ maxLen) : Calls Tryz.prog 154 #[.string s] w fun e w' => e = .returned (.bool (viewB s)) ∧ w = w' := by
  rw [← seen_view]
  have hs' : s.size ≤ 9223372036854775807 := by unfold maxLen at hs; exact hs
  have HFL := Lib.hid (rfree_any s w hs)
  go_enter Tryz.func154, Tryz.ntmps154
  have h1 : (s.toList == [42]) = decide (s = starW) := str_lit s _
  by_cases e1 : s = starW
  · have hv : Hid (seenB s = true) := by show _ = _; unfold seenB; rw [decide_eq_true e1]; rfl
    rw [decide_eq_true e1] at h1
    have h1' : (s.toList == [42]) = true := h1
    clear h1 e1
    go_wp2_with fail
    go_ret
    exact ⟨ret_bool hv.out.symm, rfl⟩
  have hv : Hid (seenB s = (frlB s || (decide (1 < s.size) && (Lib.hasSuffix (bl s) [47] && labL ((bl s).take (s.size - 1)))))) := by show _ = _; unfold seenB; rw [decide_eq_false e1, Bool.false_or]
  rw [decide_eq_false e1] at h1
  have h1' : (s.toList == [42]) = false := h1
  clear h1 e1
  cases hf : frlB s with
  | true =>
    rw [hf] at HFL hv
    clear hf
    go_wp2_with (go_at_call 155; refine HFL.out.mono ?_; rintro e w1 ⟨rfl, rfl⟩)
    go_ret
    exact ⟨ret_bool (by rw [hv.out]; rfl), rfl⟩
  | false =>
    rw [hf] at HFL hv
    rw [Bool.false_or] at hv
    clear hf
    by_cases hn : 1 < s.size
    · rw [decide_eq_true hn, Bool.true_and] at hv
      obtain ⟨k, hk⟩ : ∃ k, s.size = k + 1 := ⟨s.size - 1, by omega⟩
      rw [suffix_at s k hk, hk, Nat.add_sub_cancel] at hv
      have hks : k < s.size := by omega
      have hg := get_data s k hks
      have hg2 : (bl s)[k]? = some s[k] := hg
      rw [hg2] at hv
      have hn1 : (s.size : Int) - 1 = (k : Int) := by omega
      have hn2 : (0 : Int) < (k : Int) := by omega
      have hn3 : (k : Int) < (s.size : Int) := by omega
      clear hg hg2 hn
      by_cases h47 : s[k] = 47
      · have t1 : (((s[k].toNat : Nat) : Int) == 47) = true := by simp [h47]
        rw [h47] at hv
        simp only [decide_true, Bool.true_and] at hv
        have HLA := Lib.hid (rlabel_any (s.extract 0 k) w (by have h0 : (s.extract 0 k).size ≤ s.size := (by simp; omega); omega))
        have HEX : Hid (labB (s.extract 0 k) = labL ((bl s).take k)) := by show _ = _; unfold labB bl; rw [extract_list]; simp
        clear hk h47
        go_wp2_with (first
          | (go_at_call 155; refine HFL.out.mono ?_; rintro e w1 ⟨rfl, rfl⟩)
          | (go_at_call 38; refine HLA.out.mono ?_; rintro e w1 ⟨rfl, rfl⟩))
        go_ret
        exact ⟨ret_bool (by rw [hv.out, HEX.out]), rfl⟩
      · have t1 : (((s[k].toNat : Nat) : Int) == 47) = false := by
          rw [beq_eq_false_iff_ne]; intro e
          apply h47
          apply UInt8.toNat_inj.1
          show s[k].toNat = 47
          omega
        rw [decide_eq_false (fun e => h47 (Option.some.inj e)), Bool.false_and] at hv
        clear hk h47
        go_wp2_with (go_at_call 155; refine HFL.out.mono ?_; rintro e w1 ⟨rfl, rfl⟩)
        go_ret
        exact ⟨ret_bool hv.out.symm, rfl⟩
    · rw [decide_eq_false hn, Bool.false_and] at hv
      have hn2 : ¬ (0 : Int) < (s.size : Int) - 1 := by omega
      clear hn
      go_wp2_with (go_at_call 155; refine HFL.out.mono ?_; rintro e w1 ⟨rfl, rfl⟩)
      go_ret
      exact ⟨ret_bool hv.out.symm, rfl⟩

theorem infoStr3 : (Tryz.prog.info? 9).map (fun i => (i.zero, i.size, i.bytes)) = some (some (.string ⟨#[]⟩), 1, 16) := by kernel_rfl
set_option maxRecDepth 100000 in
set_option maxHeartbeats 2000000 in
theorem relem_any (A : Option Addr) (n c B : Nat) (l : List ByteArray) (w : World) (h : Sl w B 1 A n (strs l)) (hB : B ≤ w.heap.size) (hn : n ≤ c) (hc : c ≤ maxLen) (hls : ∀ x ∈ l, x.size ≤ maxLen) :
    Calls Tryz.prog 145 #[.slice A n c, .bool true] w fun e w' => e = .returned (.int .i64 (elE viewB [] l)) ∧ Below w.heap.size w w' := by
  have hnm : n ≤ 9223372036854775807 := by unfold maxLen at hc; omega
  have H := Lib.hid h; have HLS := Lib.hid hls
  have HLL : Hid (l.length = n) := by have := h.1; rw [strs_len] at this; show _ = _; omega
  clear h hls
  go_enter Tryz.func145, Tryz.ntmps145
  go_wp2
  go_loopw [5] (fun i wr => ∃ k : Nat, k ≤ n ∧ i = .int .i64 k ∧ Hid (elE viewB [] l = elE viewB (l.take k) (l.drop k)) ∧ Hid (Below w.heap.size w wr)) (fun i _ => n - (intOf i).toNat)
  case atStart => exact ⟨0, Nat.zero_le _, rfl, rfl, Below.refl _ _⟩
  case round =>
    obtain ⟨k, hk, rfl, hE, hBel⟩ := hrel
    by_cases hlt : k < n
    · obtain ⟨b, off, x, rfl, hb, hx, y0⟩ := (H.out.below hBel.out hB).str_at hlt
      have hxs := HLS.out x (List.mem_of_getElem? hx)
      have HT := Lib.hid (elE_take (ok := viewB) hx)
      have hlz : (k : Int) < (n : Int) := by omega
      clear hx
      cases hv : viewB x with
      | false =>
        have hF : Hid (elE viewB [] l = 6) := by show _ = _; rw [hE.out, HT.out, hv]; rfl
        have HV := Lib.hid hv
        clear hv
        go_wp2_with (go_at_call 154; refine (rseen_any _ _ hxs).mono ?_; rintro e w1 ⟨rfl, rfl⟩; rw [HV.out])
        go_ret
        exact ⟨ret_int hF.out.symm, hBel.out⟩
      | true =>
        have HV := Lib.hid hv
        have HT2 : Hid (elE viewB (l.take k) (l.drop k) = if memB (l.take k) x then 7 else elE viewB (l.take (k + 1)) (l.drop (k + 1))) := by show _ = _; rw [HT.out, hv]; rfl
        clear hv HT
        have hsl : ∀ w' : World, (Instr.sliceAt 58 (.slice (some ⟨b, off, none⟩) n c) none (some (.int .i64 k)) none).run Tryz.prog w' = .ok (.slice (some ⟨b, off, none⟩) k c) w' := fun w' => by
          obtain ⟨i0, hi0, _⟩ := info_parts infoStr3
          exact run_slice_to 58 i0 Tryz.underlying58 hi0 _ n c k (by omega) w'
        have HSL : Hid (∀ q : Nat, Calls Tryz.prog 110 #[.slice (some ⟨b, off, none⟩) k c, .string x] (wr.drewN q) fun e w' => e = .returned (.bool (memB (l.take k) x)) ∧ w' = wr.drewN q) :=
          fun q => (rhas_any (some ⟨b, off, none⟩) k n c B l x (wr.drewN q) ((H.out.below hBel.out hB).drewN q) hk hnm).mono (fun e w' h => ⟨h.1, h.2.symm⟩)
        cases hm : memB (l.take k) x with
        | true =>
          have hF : Hid (elE viewB [] l = 7) := by show _ = _; rw [hE.out, HT2.out, hm]; rfl
          rw [hm] at HSL
          clear hm
          go_wp2_with (go_at_call 154; refine (rseen_any _ _ hxs).mono ?_; rintro e w1 ⟨rfl, rfl⟩; rw [HV.out])
          go_quiet (first | (go_at_call 110; exact Calls.quiet_of_same (HSL.out _)))
          go_wp2
          go_ret
          exact ⟨ret_int hF.out.symm, below_drewN hBel.out _⟩
        | false =>
          have hF : Hid (elE viewB [] l = elE viewB (l.take (k + 1)) (l.drop (k + 1))) := by show _ = _; rw [hE.out, HT2.out, hm]; rfl
          rw [hm] at HSL
          clear hm
          go_wp2_with (go_at_call 154; refine (rseen_any _ _ hxs).mono ?_; rintro e w1 ⟨rfl, rfl⟩; rw [HV.out])
          go_quiet (first | (go_at_call 110; exact Calls.quiet_of_same (HSL.out _)))
          go_wp2
          go_roundw
          case rel => exact ⟨k + 1, hlt, by go_num, hF.out, below_drewN hBel.out _⟩
          case measure => simp [intOf]; omega
    · have hlz : ¬ (k : Int) < (n : Int) := by omega
      have hF : Hid (elE viewB [] l = 0) := by
        show _ = _
        rw [hE.out, List.drop_of_length_le (by rw [HLL.out]; omega)]; rfl
      go_wp2
      go_ret
      exact ⟨ret_int hF.out.symm, hBel.out⟩
set_option maxHeartbeats 400000 in
theorem relemNone_any (A : Option Addr) (c : Nat) (f : Bool) (w : World) : Calls Tryz.prog 145 #[.slice A 0 c, .bool f] w fun e w' => e = .returned (.int .i64 0) ∧ w = w' := by
  go_enter Tryz.func145, Tryz.ntmps145
  go_wp2
  go_loop [5] (fun i => i = .int .i64 0) (fun _ => 0)
  case atStart => rfl
  case round =>
    subst hrel
    go_wp2
    go_ret
    exact ⟨rfl, rfl⟩
def nameX : ByteArray := ⟨#[120]⟩
theorem lab_x : labB nameX = true := by decide
theorem res_x : resB nameX = false := by decide
set_option maxHeartbeats 400000 in
theorem wrapX : wrap64 ((nameX.size : Int) - 1) = 0 := by decide +kernel
theorem wrapY : wrap64 ((0 : Int) - 1) = -1 := by decide +kernel
theorem rslashX_any (w : World) : Calls Tryz.prog 153 #[.string nameX] w fun e w' => e = .returned (.int .i64 (-1)) ∧ w = w' := by
  go_enter Tryz.func153, Tryz.ntmps153
  go_wp2
  go_loop [3] (fun i => i = .int .i64 0 ∨ i = .int .i64 (-1)) (fun i => (intOf i + 1).toNat)
  case atStart => exact .inl (by rw [wrapX])
  case round =>
    rcases hrel with rfl | rfl
    · go_wp2
      go_round
      case rel => exact .inr rfl
      case measure => decide
    · go_wp2
      go_ret
      exact ⟨rfl, rfl⟩
theorem rnameX_any (w : World) : Calls Tryz.prog 143 #[.string nameX] w fun e w' => e = .returned (.bool true) ∧ w = w' := by
  go_enter Tryz.func143, Tryz.ntmps143
  go_wp2_with (first
    | (go_at_call 38; refine (rlabel_any _ _ (by decide)).mono ?_; rintro e w1 ⟨rfl, rfl⟩; rw [lab_x])
    | (go_at_call 153; refine (rslashX_any _).mono ?_; rintro e w1 ⟨rfl, rfl⟩))
  go_ret
  exact ⟨rfl, rfl⟩
set_option maxRecDepth 100000 in
set_option maxHeartbeats 1000000 in
theorem rrule_any (A : Option Addr) (n c B : Nat) (l : List ByteArray) (w : World) (h : Sl w B 1 A n (strs l)) (hB : B ≤ w.heap.size) (hn : n ≤ c) (hc : c ≤ maxLen) (hls : ∀ x ∈ l, x.size ≤ maxLen) :
    Calls Tryz.prog 129 #[.agg #[.int .i64 1, .string nameX, .slice none 0 0, .slice A n c]] w fun e w' => e = .returned (.int .i64 (visE l)) ∧ Below w.heap.size w w' := by
  have H := Lib.hid h; have HLS := Lib.hid hls
  have HLL : Hid (l.length = n) := by have := h.1; rw [strs_len] at this; show _ = _; omega
  clear h hls
  have hnm : n ≤ 9223372036854775807 := by unfold maxLen at hc; omega
  have HB0 : Hid (Below w.heap.size w (w.alloc (.cells #[.int .i64 1, .string nameX, .slice none 0 0, .slice A n c] 156))) := (Below.refl _ w).alloc (Nat.le_refl _) _
  have hk0 : Bk (w.alloc (.cells #[.int .i64 1, .string nameX, .slice none 0 0, .slice A n c] 156)) w.heap.size 156 #[.int .i64 1, .string nameX, .slice none 0 0, .slice A n c] := Bk.new w _ _
  have u0 := hk0.cell 0; have u1 := hk0.cell 1; have u2 := hk0.cell 2; have u3 := hk0.cell 3
  simp only [List.getElem?_toArray, List.getElem?_cons_succ, List.getElem?_cons_zero] at u0 u1 u2 u3
  clear hk0
  have HV := Lib.hid (relem_any A n c B l (w.alloc (.cells #[.int .i64 1, .string nameX, .slice none 0 0, .slice A n c] 156)) (H.out.below HB0.out hB) (Nat.le_trans hB HB0.out.size) hn hc HLS.out)
  go_enter Tryz.func129, Tryz.ntmps129
  by_cases hlong : 20 < n
  · have hF : Hid (visE l = 4) := by show _ = _; unfold visE; rw [if_pos (by rw [HLL.out]; exact hlong)]
    have hlz : (20 : Int) < (n : Int) := by omega
    go_wp2_with (first
      | (go_at_call 143; refine (rnameX_any _).mono ?_; rintro e w1 ⟨rfl, rfl⟩)
      | (go_at_call 144; refine (rreserved_any _ _).mono ?_; rintro e w1 ⟨rfl, rfl⟩; rw [res_x]))
    go_ret
    exact ⟨ret_int hF.out.symm, HB0.out⟩
  · have hF : Hid (visE l = elE viewB [] l) := by show _ = _; unfold visE; rw [if_neg (by rw [HLL.out]; exact hlong)]
    have hlz : ¬ (20 : Int) < (n : Int) := by omega
    go_wp2_with (first
      | (go_at_call 143; refine (rnameX_any _).mono ?_; rintro e w1 ⟨rfl, rfl⟩)
      | (go_at_call 144; refine (rreserved_any _ _).mono ?_; rintro e w1 ⟨rfl, rfl⟩; rw [res_x])
      | (go_at_call 145; refine (relemNone_any none 0 _ _).mono ?_; rintro e w2 ⟨rfl, rfl⟩; refine halt_ ?_))
    refine unhalt ?_
    go_wp2_with (go_at_call 145; refine HV.out.mono ?_; rintro e w2 ⟨rfl, hb2⟩)
    go_ret
    exact ⟨ret_int hF.out.symm, HB0.out.trans (hb2.mono HB0.out.size)⟩
set_option maxRecDepth 100000 in
set_option maxHeartbeats 2000000 in
/-- the one rule lies in block b -/
theorem rcheckOne_any (A : Option Addr) (n c B b : Nat) (l : List ByteArray) (w : World) (h : Sl w B 1 A n (strs l)) (hB : B ≤ w.heap.size) (hn : n ≤ c) (hc : c ≤ maxLen) (hls : ∀ x ∈ l, x.size ≤ maxLen) (hk : Bk w b 156 #[.int .i64 1, .string nameX, .slice none 0 0, .slice A n c]) :
    Calls Tryz.prog 107 #[.slice (some ⟨b, 0, none⟩) 1 1] w fun e w' => e = .returned (.int .i64 (visE l)) ∧ Below w.heap.size w w' := by
  have H := Lib.hid h; have HLS := Lib.hid hls; have HK := Lib.hid hk
  clear h hls hk
  have u0 := HK.out.cell 0; have u1 := HK.out.cell 1; have u2 := HK.out.cell 2; have u3 := HK.out.cell 3
  simp only [List.getElem?_toArray, List.getElem?_cons_succ, List.getElem?_cons_zero] at u0 u1 u2 u3
  have HC := Lib.hid (rrule_any A n c B l w H.out hB hn hc HLS.out)
  go_enter Tryz.func107, Tryz.ntmps107
  go_wp2
  go_loopw [3, 4] (fun i _ wr => (i = .int .i64 0 ∧ wr = w) ∨ (i = .int .i64 1 ∧ Hid (visE l = 0) ∧ Hid (Below w.heap.size w wr))) (fun i _ _ => 1 - (intOf i).toNat)
  case atStart => exact .inl ⟨rfl, rfl⟩
  case round =>
    rcases hrel with ⟨rfl, rfl⟩ | ⟨rfl, hE, hBel⟩
    · by_cases hv : visE l = 0
      · have HV := Lib.hid hv
        rw [hv] at HC
        clear hv
        go_wp2_with (go_at_call 129; refine HC.out.mono ?_; rintro e w2 ⟨rfl, hb2⟩; refine halt_ ?_)
        refine unhalt ?_
        have HB2 : Hid (Below wr.heap.size wr w2) := hb2
        clear hb2
        go_wp2
        go_loop [4, 5] (fun e i => e = .int .i64 0 ∧ i = .int .i64 0) (fun _ _ => 0)
        case atStart => exact ⟨rfl, rfl⟩
        case round =>
          obtain ⟨rfl, rfl⟩ := hrel
          go_wp2
          go_roundw
          case rel => exact .inr ⟨rfl, HV.out, HB2.out⟩
          case measure => simp [intOf]
      · have hv' : (visE l != 0) = true := by simpa using hv
        obtain ⟨v, hve⟩ : ∃ v, visE l = v := ⟨_, rfl⟩
        rw [hve] at HC hv'
        have HVE := Lib.hid hve
        clear hv hve
        go_wp2_with (go_at_call 129; refine HC.out.mono ?_; rintro e w2 ⟨rfl, hb2⟩)
        go_loop [4, 5] (fun e i => e = .int .i64 v ∧ i = .int .i64 0) (fun _ _ => 0)
        case atStart => exact ⟨rfl, rfl⟩
        case round =>
          obtain ⟨rfl, rfl⟩ := hrel
          go_wp2
          go_ret
          exact ⟨ret_int HVE.out.symm, hb2⟩
    · go_wp2
      go_ret
      exact ⟨ret_int hE.out.symm, hBel.out⟩
end Go.Proofs.YtiphbincnnppdaaGreatDoor

namespace Go.Proofs.YtiphbincnnppdaaGreatDoor

theorem ls1 {vs : List Value} (h : vs.length = 1) : ∃ v0, vs = v0 :: [] := by
  match vs, h with
  | v0 :: [], _ => exact ⟨_, rfl⟩
theorem ls2 {vs : List Value} (h : vs.length = 2) : ∃ v0 v1, vs = v0 :: v1 :: [] := by
  match vs, h with
  | v0 :: v1 :: [], _ => exact ⟨_, _, rfl⟩
theorem ls3 {vs : List Value} (h : vs.length = 3) : ∃ v0 v1 v2, vs = v0 :: v1 :: v2 :: [] := by
  match vs, h with
  | v0 :: v1 :: v2 :: [], _ => exact ⟨_, _, _, rfl⟩
theorem ls4 {vs : List Value} (h : vs.length = 4) : ∃ v0 v1 v2 v3, vs = v0 :: v1 :: v2 :: v3 :: [] := by
  match vs, h with
  | v0 :: v1 :: v2 :: v3 :: [], _ => exact ⟨_, _, _, _, rfl⟩
theorem ls5 {vs : List Value} (h : vs.length = 5) : ∃ v0 v1 v2 v3 v4, vs = v0 :: v1 :: v2 :: v3 :: v4 :: [] := by
  match vs, h with
  | v0 :: v1 :: v2 :: v3 :: v4 :: [], _ => exact ⟨_, _, _, _, _, rfl⟩
theorem ls6 {vs : List Value} (h : vs.length = 6) : ∃ v0 v1 v2 v3 v4 v5, vs = v0 :: v1 :: v2 :: v3 :: v4 :: v5 :: [] := by
  match vs, h with
  | v0 :: v1 :: v2 :: v3 :: v4 :: v5 :: [], _ => exact ⟨_, _, _, _, _, _, rfl⟩
theorem ls7 {vs : List Value} (h : vs.length = 7) : ∃ v0 v1 v2 v3 v4 v5 v6, vs = v0 :: v1 :: v2 :: v3 :: v4 :: v5 :: v6 :: [] := by
  match vs, h with
  | v0 :: v1 :: v2 :: v3 :: v4 :: v5 :: v6 :: [], _ => exact ⟨_, _, _, _, _, _, _, rfl⟩
theorem ls8 {vs : List Value} (h : vs.length = 8) : ∃ v0 v1 v2 v3 v4 v5 v6 v7, vs = v0 :: v1 :: v2 :: v3 :: v4 :: v5 :: v6 :: v7 :: [] := by
  match vs, h with
  | v0 :: v1 :: v2 :: v3 :: v4 :: v5 :: v6 :: v7 :: [], _ => exact ⟨_, _, _, _, _, _, _, _, rfl⟩
theorem ls9 {vs : List Value} (h : vs.length = 9) : ∃ v0 v1 v2 v3 v4 v5 v6 v7 v8, vs = v0 :: v1 :: v2 :: v3 :: v4 :: v5 :: v6 :: v7 :: v8 :: [] := by
  match vs, h with
  | v0 :: v1 :: v2 :: v3 :: v4 :: v5 :: v6 :: v7 :: v8 :: [], _ => exact ⟨_, _, _, _, _, _, _, _, _, rfl⟩
theorem ls10 {vs : List Value} (h : vs.length = 10) : ∃ v0 v1 v2 v3 v4 v5 v6 v7 v8 v9, vs = v0 :: v1 :: v2 :: v3 :: v4 :: v5 :: v6 :: v7 :: v8 :: v9 :: [] := by
  match vs, h with
  | v0 :: v1 :: v2 :: v3 :: v4 :: v5 :: v6 :: v7 :: v8 :: v9 :: [], _ => exact ⟨_, _, _, _, _, _, _, _, _, _, rfl⟩
theorem ls11 {vs : List Value} (h : vs.length = 11) : ∃ v0 v1 v2 v3 v4 v5 v6 v7 v8 v9 v10, vs = v0 :: v1 :: v2 :: v3 :: v4 :: v5 :: v6 :: v7 :: v8 :: v9 :: v10 :: [] := by
  match vs, h with
  | v0 :: v1 :: v2 :: v3 :: v4 :: v5 :: v6 :: v7 :: v8 :: v9 :: v10 :: [], _ => exact ⟨_, _, _, _, _, _, _, _, _, _, _, rfl⟩
theorem ls12 {vs : List Value} (h : vs.length = 12) : ∃ v0 v1 v2 v3 v4 v5 v6 v7 v8 v9 v10 v11, vs = v0 :: v1 :: v2 :: v3 :: v4 :: v5 :: v6 :: v7 :: v8 :: v9 :: v10 :: v11 :: [] := by
  match vs, h with
  | v0 :: v1 :: v2 :: v3 :: v4 :: v5 :: v6 :: v7 :: v8 :: v9 :: v10 :: v11 :: [], _ => exact ⟨_, _, _, _, _, _, _, _, _, _, _, _, rfl⟩
theorem ls13 {vs : List Value} (h : vs.length = 13) : ∃ v0 v1 v2 v3 v4 v5 v6 v7 v8 v9 v10 v11 v12, vs = v0 :: v1 :: v2 :: v3 :: v4 :: v5 :: v6 :: v7 :: v8 :: v9 :: v10 :: v11 :: v12 :: [] := by
  match vs, h with
  | v0 :: v1 :: v2 :: v3 :: v4 :: v5 :: v6 :: v7 :: v8 :: v9 :: v10 :: v11 :: v12 :: [], _ => exact ⟨_, _, _, _, _, _, _, _, _, _, _, _, _, rfl⟩
theorem ls14 {vs : List Value} (h : vs.length = 14) : ∃ v0 v1 v2 v3 v4 v5 v6 v7 v8 v9 v10 v11 v12 v13, vs = v0 :: v1 :: v2 :: v3 :: v4 :: v5 :: v6 :: v7 :: v8 :: v9 :: v10 :: v11 :: v12 :: v13 :: [] := by
  match vs, h with
  | v0 :: v1 :: v2 :: v3 :: v4 :: v5 :: v6 :: v7 :: v8 :: v9 :: v10 :: v11 :: v12 :: v13 :: [], _ => exact ⟨_, _, _, _, _, _, _, _, _, _, _, _, _, _, rfl⟩
theorem ls15 {vs : List Value} (h : vs.length = 15) : ∃ v0 v1 v2 v3 v4 v5 v6 v7 v8 v9 v10 v11 v12 v13 v14, vs = v0 :: v1 :: v2 :: v3 :: v4 :: v5 :: v6 :: v7 :: v8 :: v9 :: v10 :: v11 :: v12 :: v13 :: v14 :: [] := by
  match vs, h with
  | v0 :: v1 :: v2 :: v3 :: v4 :: v5 :: v6 :: v7 :: v8 :: v9 :: v10 :: v11 :: v12 :: v13 :: v14 :: [], _ => exact ⟨_, _, _, _, _, _, _, _, _, _, _, _, _, _, _, rfl⟩
theorem ls16 {vs : List Value} (h : vs.length = 16) : ∃ v0 v1 v2 v3 v4 v5 v6 v7 v8 v9 v10 v11 v12 v13 v14 v15, vs = v0 :: v1 :: v2 :: v3 :: v4 :: v5 :: v6 :: v7 :: v8 :: v9 :: v10 :: v11 :: v12 :: v13 :: v14 :: v15 :: [] := by
  match vs, h with
  | v0 :: v1 :: v2 :: v3 :: v4 :: v5 :: v6 :: v7 :: v8 :: v9 :: v10 :: v11 :: v12 :: v13 :: v14 :: v15 :: [], _ => exact ⟨_, _, _, _, _, _, _, _, _, _, _, _, _, _, _, _, rfl⟩
theorem ls17 {vs : List Value} (h : vs.length = 17) : ∃ v0 v1 v2 v3 v4 v5 v6 v7 v8 v9 v10 v11 v12 v13 v14 v15 v16, vs = v0 :: v1 :: v2 :: v3 :: v4 :: v5 :: v6 :: v7 :: v8 :: v9 :: v10 :: v11 :: v12 :: v13 :: v14 :: v15 :: v16 :: [] := by
  match vs, h with
  | v0 :: v1 :: v2 :: v3 :: v4 :: v5 :: v6 :: v7 :: v8 :: v9 :: v10 :: v11 :: v12 :: v13 :: v14 :: v15 :: v16 :: [], _ => exact ⟨_, _, _, _, _, _, _, _, _, _, _, _, _, _, _, _, _, rfl⟩
theorem ls18 {vs : List Value} (h : vs.length = 18) : ∃ v0 v1 v2 v3 v4 v5 v6 v7 v8 v9 v10 v11 v12 v13 v14 v15 v16 v17, vs = v0 :: v1 :: v2 :: v3 :: v4 :: v5 :: v6 :: v7 :: v8 :: v9 :: v10 :: v11 :: v12 :: v13 :: v14 :: v15 :: v16 :: v17 :: [] := by
  match vs, h with
  | v0 :: v1 :: v2 :: v3 :: v4 :: v5 :: v6 :: v7 :: v8 :: v9 :: v10 :: v11 :: v12 :: v13 :: v14 :: v15 :: v16 :: v17 :: [], _ => exact ⟨_, _, _, _, _, _, _, _, _, _, _, _, _, _, _, _, _, _, rfl⟩
theorem ls19 {vs : List Value} (h : vs.length = 19) : ∃ v0 v1 v2 v3 v4 v5 v6 v7 v8 v9 v10 v11 v12 v13 v14 v15 v16 v17 v18, vs = v0 :: v1 :: v2 :: v3 :: v4 :: v5 :: v6 :: v7 :: v8 :: v9 :: v10 :: v11 :: v12 :: v13 :: v14 :: v15 :: v16 :: v17 :: v18 :: [] := by
  match vs, h with
  | v0 :: v1 :: v2 :: v3 :: v4 :: v5 :: v6 :: v7 :: v8 :: v9 :: v10 :: v11 :: v12 :: v13 :: v14 :: v15 :: v16 :: v17 :: v18 :: [], _ => exact ⟨_, _, _, _, _, _, _, _, _, _, _, _, _, _, _, _, _, _, _, rfl⟩
theorem ls20 {vs : List Value} (h : vs.length = 20) : ∃ v0 v1 v2 v3 v4 v5 v6 v7 v8 v9 v10 v11 v12 v13 v14 v15 v16 v17 v18 v19, vs = v0 :: v1 :: v2 :: v3 :: v4 :: v5 :: v6 :: v7 :: v8 :: v9 :: v10 :: v11 :: v12 :: v13 :: v14 :: v15 :: v16 :: v17 :: v18 :: v19 :: [] := by
  match vs, h with
  | v0 :: v1 :: v2 :: v3 :: v4 :: v5 :: v6 :: v7 :: v8 :: v9 :: v10 :: v11 :: v12 :: v13 :: v14 :: v15 :: v16 :: v17 :: v18 :: v19 :: [], _ => exact ⟨_, _, _, _, _, _, _, _, _, _, _, _, _, _, _, _, _, _, _, _, rfl⟩
theorem ls21 {vs : List Value} (h : vs.length = 21) : ∃ v0 v1 v2 v3 v4 v5 v6 v7 v8 v9 v10 v11 v12 v13 v14 v15 v16 v17 v18 v19 v20, vs = v0 :: v1 :: v2 :: v3 :: v4 :: v5 :: v6 :: v7 :: v8 :: v9 :: v10 :: v11 :: v12 :: v13 :: v14 :: v15 :: v16 :: v17 :: v18 :: v19 :: v20 :: [] := by
  match vs, h with
  | v0 :: v1 :: v2 :: v3 :: v4 :: v5 :: v6 :: v7 :: v8 :: v9 :: v10 :: v11 :: v12 :: v13 :: v14 :: v15 :: v16 :: v17 :: v18 :: v19 :: v20 :: [], _ => exact ⟨_, _, _, _, _, _, _, _, _, _, _, _, _, _, _, _, _, _, _, _, _, rfl⟩
theorem ls22 {vs : List Value} (h : vs.length = 22) : ∃ v0 v1 v2 v3 v4 v5 v6 v7 v8 v9 v10 v11 v12 v13 v14 v15 v16 v17 v18 v19 v20 v21, vs = v0 :: v1 :: v2 :: v3 :: v4 :: v5 :: v6 :: v7 :: v8 :: v9 :: v10 :: v11 :: v12 :: v13 :: v14 :: v15 :: v16 :: v17 :: v18 :: v19 :: v20 :: v21 :: [] := by
  match vs, h with
  | v0 :: v1 :: v2 :: v3 :: v4 :: v5 :: v6 :: v7 :: v8 :: v9 :: v10 :: v11 :: v12 :: v13 :: v14 :: v15 :: v16 :: v17 :: v18 :: v19 :: v20 :: v21 :: [], _ => exact ⟨_, _, _, _, _, _, _, _, _, _, _, _, _, _, _, _, _, _, _, _, _, _, rfl⟩
theorem ls23 {vs : List Value} (h : vs.length = 23) : ∃ v0 v1 v2 v3 v4 v5 v6 v7 v8 v9 v10 v11 v12 v13 v14 v15 v16 v17 v18 v19 v20 v21 v22, vs = v0 :: v1 :: v2 :: v3 :: v4 :: v5 :: v6 :: v7 :: v8 :: v9 :: v10 :: v11 :: v12 :: v13 :: v14 :: v15 :: v16 :: v17 :: v18 :: v19 :: v20 :: v21 :: v22 :: [] := by
  match vs, h with
  | v0 :: v1 :: v2 :: v3 :: v4 :: v5 :: v6 :: v7 :: v8 :: v9 :: v10 :: v11 :: v12 :: v13 :: v14 :: v15 :: v16 :: v17 :: v18 :: v19 :: v20 :: v21 :: v22 :: [], _ => exact ⟨_, _, _, _, _, _, _, _, _, _, _, _, _, _, _, _, _, _, _, _, _, _, _, rfl⟩
theorem ls24 {vs : List Value} (h : vs.length = 24) : ∃ v0 v1 v2 v3 v4 v5 v6 v7 v8 v9 v10 v11 v12 v13 v14 v15 v16 v17 v18 v19 v20 v21 v22 v23, vs = v0 :: v1 :: v2 :: v3 :: v4 :: v5 :: v6 :: v7 :: v8 :: v9 :: v10 :: v11 :: v12 :: v13 :: v14 :: v15 :: v16 :: v17 :: v18 :: v19 :: v20 :: v21 :: v22 :: v23 :: [] := by
  match vs, h with
  | v0 :: v1 :: v2 :: v3 :: v4 :: v5 :: v6 :: v7 :: v8 :: v9 :: v10 :: v11 :: v12 :: v13 :: v14 :: v15 :: v16 :: v17 :: v18 :: v19 :: v20 :: v21 :: v22 :: v23 :: [], _ => exact ⟨_, _, _, _, _, _, _, _, _, _, _, _, _, _, _, _, _, _, _, _, _, _, _, _, rfl⟩
theorem ls25 {vs : List Value} (h : vs.length = 25) : ∃ v0 v1 v2 v3 v4 v5 v6 v7 v8 v9 v10 v11 v12 v13 v14 v15 v16 v17 v18 v19 v20 v21 v22 v23 v24, vs = v0 :: v1 :: v2 :: v3 :: v4 :: v5 :: v6 :: v7 :: v8 :: v9 :: v10 :: v11 :: v12 :: v13 :: v14 :: v15 :: v16 :: v17 :: v18 :: v19 :: v20 :: v21 :: v22 :: v23 :: v24 :: [] := by
  match vs, h with
  | v0 :: v1 :: v2 :: v3 :: v4 :: v5 :: v6 :: v7 :: v8 :: v9 :: v10 :: v11 :: v12 :: v13 :: v14 :: v15 :: v16 :: v17 :: v18 :: v19 :: v20 :: v21 :: v22 :: v23 :: v24 :: [], _ => exact ⟨_, _, _, _, _, _, _, _, _, _, _, _, _, _, _, _, _, _, _, _, _, _, _, _, _, rfl⟩
theorem ls26 {vs : List Value} (h : vs.length = 26) : ∃ v0 v1 v2 v3 v4 v5 v6 v7 v8 v9 v10 v11 v12 v13 v14 v15 v16 v17 v18 v19 v20 v21 v22 v23 v24 v25, vs = v0 :: v1 :: v2 :: v3 :: v4 :: v5 :: v6 :: v7 :: v8 :: v9 :: v10 :: v11 :: v12 :: v13 :: v14 :: v15 :: v16 :: v17 :: v18 :: v19 :: v20 :: v21 :: v22 :: v23 :: v24 :: v25 :: [] := by
  match vs, h with
  | v0 :: v1 :: v2 :: v3 :: v4 :: v5 :: v6 :: v7 :: v8 :: v9 :: v10 :: v11 :: v12 :: v13 :: v14 :: v15 :: v16 :: v17 :: v18 :: v19 :: v20 :: v21 :: v22 :: v23 :: v24 :: v25 :: [], _ => exact ⟨_, _, _, _, _, _, _, _, _, _, _, _, _, _, _, _, _, _, _, _, _, _, _, _, _, _, rfl⟩
theorem ls27 {vs : List Value} (h : vs.length = 27) : ∃ v0 v1 v2 v3 v4 v5 v6 v7 v8 v9 v10 v11 v12 v13 v14 v15 v16 v17 v18 v19 v20 v21 v22 v23 v24 v25 v26, vs = v0 :: v1 :: v2 :: v3 :: v4 :: v5 :: v6 :: v7 :: v8 :: v9 :: v10 :: v11 :: v12 :: v13 :: v14 :: v15 :: v16 :: v17 :: v18 :: v19 :: v20 :: v21 :: v22 :: v23 :: v24 :: v25 :: v26 :: [] := by
  match vs, h with
  | v0 :: v1 :: v2 :: v3 :: v4 :: v5 :: v6 :: v7 :: v8 :: v9 :: v10 :: v11 :: v12 :: v13 :: v14 :: v15 :: v16 :: v17 :: v18 :: v19 :: v20 :: v21 :: v22 :: v23 :: v24 :: v25 :: v26 :: [], _ => exact ⟨_, _, _, _, _, _, _, _, _, _, _, _, _, _, _, _, _, _, _, _, _, _, _, _, _, _, _, rfl⟩
theorem ls28 {vs : List Value} (h : vs.length = 28) : ∃ v0 v1 v2 v3 v4 v5 v6 v7 v8 v9 v10 v11 v12 v13 v14 v15 v16 v17 v18 v19 v20 v21 v22 v23 v24 v25 v26 v27, vs = v0 :: v1 :: v2 :: v3 :: v4 :: v5 :: v6 :: v7 :: v8 :: v9 :: v10 :: v11 :: v12 :: v13 :: v14 :: v15 :: v16 :: v17 :: v18 :: v19 :: v20 :: v21 :: v22 :: v23 :: v24 :: v25 :: v26 :: v27 :: [] := by
  match vs, h with
  | v0 :: v1 :: v2 :: v3 :: v4 :: v5 :: v6 :: v7 :: v8 :: v9 :: v10 :: v11 :: v12 :: v13 :: v14 :: v15 :: v16 :: v17 :: v18 :: v19 :: v20 :: v21 :: v22 :: v23 :: v24 :: v25 :: v26 :: v27 :: [], _ => exact ⟨_, _, _, _, _, _, _, _, _, _, _, _, _, _, _, _, _, _, _, _, _, _, _, _, _, _, _, _, rfl⟩
theorem ls29 {vs : List Value} (h : vs.length = 29) : ∃ v0 v1 v2 v3 v4 v5 v6 v7 v8 v9 v10 v11 v12 v13 v14 v15 v16 v17 v18 v19 v20 v21 v22 v23 v24 v25 v26 v27 v28, vs = v0 :: v1 :: v2 :: v3 :: v4 :: v5 :: v6 :: v7 :: v8 :: v9 :: v10 :: v11 :: v12 :: v13 :: v14 :: v15 :: v16 :: v17 :: v18 :: v19 :: v20 :: v21 :: v22 :: v23 :: v24 :: v25 :: v26 :: v27 :: v28 :: [] := by
  match vs, h with
  | v0 :: v1 :: v2 :: v3 :: v4 :: v5 :: v6 :: v7 :: v8 :: v9 :: v10 :: v11 :: v12 :: v13 :: v14 :: v15 :: v16 :: v17 :: v18 :: v19 :: v20 :: v21 :: v22 :: v23 :: v24 :: v25 :: v26 :: v27 :: v28 :: [], _ => exact ⟨_, _, _, _, _, _, _, _, _, _, _, _, _, _, _, _, _, _, _, _, _, _, _, _, _, _, _, _, _, rfl⟩
theorem ls30 {vs : List Value} (h : vs.length = 30) : ∃ v0 v1 v2 v3 v4 v5 v6 v7 v8 v9 v10 v11 v12 v13 v14 v15 v16 v17 v18 v19 v20 v21 v22 v23 v24 v25 v26 v27 v28 v29, vs = v0 :: v1 :: v2 :: v3 :: v4 :: v5 :: v6 :: v7 :: v8 :: v9 :: v10 :: v11 :: v12 :: v13 :: v14 :: v15 :: v16 :: v17 :: v18 :: v19 :: v20 :: v21 :: v22 :: v23 :: v24 :: v25 :: v26 :: v27 :: v28 :: v29 :: [] := by
  match vs, h with
  | v0 :: v1 :: v2 :: v3 :: v4 :: v5 :: v6 :: v7 :: v8 :: v9 :: v10 :: v11 :: v12 :: v13 :: v14 :: v15 :: v16 :: v17 :: v18 :: v19 :: v20 :: v21 :: v22 :: v23 :: v24 :: v25 :: v26 :: v27 :: v28 :: v29 :: [], _ => exact ⟨_, _, _, _, _, _, _, _, _, _, _, _, _, _, _, _, _, _, _, _, _, _, _, _, _, _, _, _, _, _, rfl⟩
end Go.Proofs.YtiphbincnnppdaaGreatDoor
