/-
  RefsCodec.
-/
import Derived.Test.YtikmiabncbhioaaDoorDec
import Derived.Test.YtikmiabncbhioaaDoorAwake
namespace Go.Proofs.YtikmiabncbhioaaDoor
open Go.RowKit

theorem many_few {us : List Upd} (h : manyB us = false) : us.length ≤ 12 := by
  unfold manyB at h
  simp only [Bool.or_eq_false_iff, decide_eq_false_iff_not] at h
  omega
theorem encR_ok {us : List Upd} (h : (encR us).2 = 0) : us.length ≤ 1000 ∧ errsE us = 0 ∧ (encR us).1 = encN us.length ++ encL us := by
  unfold encR at h ⊢
  by_cases h1 : 1000 < us.length
  · rw [if_pos h1] at h; simp at h
  · rw [if_neg h1] at h ⊢
    by_cases h2 : errsE us ≠ 0
    · rw [if_pos h2] at h; exact absurd h h2
    · rw [if_neg h2]
      exact ⟨by omega, by simpa using h2, rfl⟩
theorem encR_bad {us : List Upd} (h : (encR us).2 ≠ 0) : (encR us).1 = [] := by
  unfold encR at h ⊢
  by_cases h1 : 1000 < us.length
  · rw [if_pos h1]
  · rw [if_neg h1] at h ⊢
    by_cases h2 : errsE us ≠ 0
    · rw [if_pos h2]
    · rw [if_neg h2] at h; exact absurd rfl h

set_option maxRecDepth 100000 in
set_option maxHeartbeats 4000000 in
theorem law9_any (A0 : Option Addr) (n0 c0 B : Nat) (us : List Upd) (s : ByteArray) (w : World) (h0 : Sl w B 5 A0 n0 (flat upC us)) (hB : B ≤ w.heap.size) (hn0 : n0 ≤ maxLen) (hs : ∀ u ∈ us, u.1.size ≤ maxLen) (hw : ∀ u ∈ us, WfU u) :
    Calls Tryd.prog 9 #[.slice A0 n0 c0, .string s] w fun e w' => e = .returned (.bool true) ∧ Below w.heap.size w w' := by
  have HN := Lib.hid hn0; clear hn0
  have H0 := Lib.hid h0; have HS := Lib.hid hs; have HW := Lib.hid hw
  clear h0 hs hw
  go_enter Tryd.func9, Tryd.ntmps9
  go_wp2_with fail
  refine (many_any A0 n0 c0 B us _ H0.out HN.out).mono ?_
  rintro e w' ⟨rfl, rfl⟩
  cases hm : manyB us with
  | true =>
    clear hm
    go_wp2_with fail
    refine (awake_any _).mono ?_
    rintro e wz ⟨rfl, hbz⟩
    have HBz := Lib.hid hbz; clear hbz
    go_wp2_with fail
    go_ret
    exact ⟨rfl, HBz.out⟩
  | false =>
    clear hm
    by_cases hlen : (500 : Int) < (s.size : Int)
    · go_wp2_with fail
      refine (awake_any _).mono ?_
      rintro e wz ⟨rfl, hbz⟩
      have HBz := Lib.hid hbz; clear hbz
      go_wp2_with fail
      go_ret
      exact ⟨rfl, HBz.out⟩
    · go_wp2_with fail
      refine (encode_any A0 n0 c0 B us _ H0.out hB HN.out HS.out HW.out).mono ?_
      have HRE := Lib.hid (fun (w' : World) (hb : Below w.heap.size w w') => refEncode_any A0 n0 c0 B us w' (H0.out.below hb hB) (Nat.le_trans hB hb.size) HN.out HS.out HW.out)
      generalize encR us = er at *
      obtain ⟨et, ee⟩ := er
      rintro e w1 ⟨rfl, hb1⟩
      simp only
      obtain ⟨es, hes⟩ : ∃ es, ofL et = es := ⟨_, rfl⟩
      rw [hes]
      have HES := Lib.hid hes
      have HB1 := Lib.hid hb1
      clear hes hb1
      go_wp2_with fail
      refine (HRE.out _ HB1.out).mono ?_
      rintro e w2 ⟨rfl, hb2⟩
      simp only
      rw [HES.out]
      have HB2 := Lib.hid (HB1.out.trans (hb2.mono HB1.out.size))
      clear hb2
      go_wp2_with fail
      refine (decode_any s _ (by omega)).mono ?_
      have HRD := Lib.hid (fun w' : World => refDecode_any s w' (by omega))
      generalize decR (toL s) = dr at *
      obtain ⟨ds, de⟩ := dr
      rintro e w3 ⟨A3, n3, c3, rfl, a1, a2, a3, hb3⟩
      simp only at a1 ⊢
      have S3 := Lib.hid a1; have M3 := Lib.hid (Nat.le_trans a2 a3)
      have HB3 := Lib.hid (HB2.out.trans (hb3.mono HB2.out.size))
      clear a1 a2 a3 hb3
      go_wp2_with fail
      refine (HRD.out _).mono ?_
      rintro e w4 ⟨A4, n4, c4, rfl, a1, a2, a3, hb4⟩
      simp only at a1 ⊢
      have S4 := Lib.hid a1; have T3 := Lib.hid (S3.out.on hb4)
      have HB4 := Lib.hid (HB3.out.trans (hb4.mono HB3.out.size))
      clear a1 a2 a3 hb4
      have t1 : (es.toList == es.toList) = true := by simp
      go_wp2_with fail
      refine (sameUpds_any A3 A4 n3 c3 n4 c4 _ ds ds _ T3.out S4.out M3.out).mono ?_
      rintro e w5 ⟨rfl, j, rfl⟩
      rw [show decide (ds = ds) = true by simp]
      have HB5 := Lib.hid (below_drewN' HB4.out j)
      go_wp2_with fail
      refine (awake_any _).mono ?_
      rintro e wz ⟨rfl, hbz⟩
      have HBz := Lib.hid (HB5.out.trans (hbz.mono HB5.out.size)); clear hbz
      go_wp2_with fail
      go_ret
      exact ⟨rfl, HBz.out⟩
end Go.Proofs.YtikmiabncbhioaaDoor
