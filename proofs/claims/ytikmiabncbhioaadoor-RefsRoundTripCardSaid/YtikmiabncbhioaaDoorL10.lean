/-
  RefsRoundTrip.
-/
import Derived.Test.YtikmiabncbhioaaDoorL9
namespace Go.Proofs.YtikmiabncbhioaaDoor
open Go.RowKit

set_option maxRecDepth 100000 in
set_option maxHeartbeats 4000000 in
theorem law10_any (A0 : Option Addr) (n0 c0 B : Nat) (us : List Upd) (s : ByteArray) (w : World) (h0 : Sl w B 5 A0 n0 (flat upC us)) (hB : B ≤ w.heap.size) (hn0 : n0 ≤ maxLen) (hs : ∀ u ∈ us, u.1.size ≤ maxLen) (hw : ∀ u ∈ us, WfU u) :
    Calls Tryd.prog 10 #[.slice A0 n0 c0, .string s] w fun e w' => e = .returned (.bool true) ∧ Below w.heap.size w w' := by
  have HN := Lib.hid hn0; clear hn0
  have HL := Lib.hid (h0.len upC_len (by omega))
  have H0 := Lib.hid h0; have HS := Lib.hid hs; have HW := Lib.hid hw
  clear h0 hs hw
  go_enter Tryd.func10, Tryd.ntmps10
  go_wp2_with fail
  refine (many_any A0 n0 c0 B us _ H0.out HN.out).mono ?_
  rintro e w' ⟨rfl, rfl⟩
  cases hm : manyB us with
  | true =>
    clear hm
    go_wp2_with fail
    refine (awake_any _).mono ?_
    rintro e wz ⟨rfl, hbz⟩
    have HBz := Lib.hid hbz; clear hbz
    go_wp2_with fail
    go_ret
    exact ⟨rfl, HBz.out⟩
  | false =>
    have hl12 := many_few hm
    rw [HL.out] at hl12
    clear hm
    by_cases hlen : (500 : Int) < (s.size : Int)
    · go_wp2_with fail
      refine (awake_any _).mono ?_
      rintro e wz ⟨rfl, hbz⟩
      have HBz := Lib.hid hbz; clear hbz
      go_wp2_with fail
      go_ret
      exact ⟨rfl, HBz.out⟩
    · go_wp2_with fail
      refine (decode_any s _ (by omega)).mono ?_
      have HDI : Hid ((decR (toL s)).2 = 0 → encR (decR (toL s)).1 = (toL s, 0) ∧ ∀ u ∈ (decR (toL s)).1, u.1.size ≤ 65536 ∧ WfU u) := fun h => by
        have := dec_inv (l := toL s) (us := (decR (toL s)).1) (Prod.ext rfl h)
        exact ⟨this.1, this.2.2⟩
      generalize decR (toL s) = dr at *
      obtain ⟨ds, de⟩ := dr
      rintro e w1 ⟨A3, n3, c3, rfl, a1, a2, a3, hb1⟩
      simp only at a1 HDI ⊢
      have S3 := Lib.hid a1; have M3 := Lib.hid (Nat.le_trans a2 a3)
      have HB1 := Lib.hid hb1
      clear a1 a2 a3 hb1
      -- what follows both ways
      have HRE : Hid (∀ (w' : World), Below w.heap.size w w' → Calls Tryd.prog 27 #[.slice A0 n0 c0] w' (RetE (encR us) w')) := fun w' hb => encode_any A0 n0 c0 B us w' (H0.out.below hb hB) (Nat.le_trans hB hb.size) HN.out HS.out HW.out
      have HOK : Hid ((encR us).2 = 0 → decR (encR us).1 = (us, 0) ∧ (encR us).1.length ≤ 1000000) := fun h => by
        obtain ⟨h1, h2, h3⟩ := encR_ok h
        have hp := (errs_zero us).1 h2
        rw [h3]
        refine ⟨dec_enc h1 h2 (fun u hu => ⟨by have := proper_size (hp u hu); omega, HW.out u hu⟩), ?_⟩
        have e1 := encL_len us (fun u hu => proper_size (hp u hu))
        have e2 := encN_len 5 us.length (by omega)
        rw [List.length_append]; omega
      have HBD : Hid ((encR us).2 ≠ 0 → (encR us).1 = []) := encR_bad
      by_cases hde : de = 0
      · subst hde
        obtain ⟨h1, h2⟩ := HDI.out rfl
        have HE1 := Lib.hid h1
        have HDS : Hid (∀ u ∈ ds, u.1.size ≤ maxLen) := fun u hu => Nat.le_trans (h2 u hu).1 (by unfold maxLen; omega)
        have HDW : Hid (∀ u ∈ ds, WfU u) := fun u hu => (h2 u hu).2
        clear h1 h2 HDI
        have HOS := Lib.hid (ofL_toL s)
        go_wp2_with fail
        refine (encode_any A3 n3 c3 _ ds _ S3.out (Nat.le_refl _) M3.out HDS.out HDW.out).mono ?_
        rw [HE1.out]
        rintro e w2 ⟨rfl, hb2⟩
        simp only
        rw [HOS.out]
        have HB2 := Lib.hid (HB1.out.trans (hb2.mono HB1.out.size))
        clear hb2
        have t1 : (s.toList != s.toList) = false := by simp
        have t2 : (s.toList == s.toList) = true := by simp
        go_wp2_with fail
        refine (HRE.out _ HB2.out).mono ?_
        generalize encR us = er at *
        obtain ⟨et, ee⟩ := er
        rintro e w3 ⟨rfl, hb3⟩
        simp only at HOK HBD ⊢
        obtain ⟨es, hes⟩ : ∃ es, ofL et = es := ⟨_, rfl⟩
        rw [hes]
        have HES : Hid (et = toL es) := by show _ = _; rw [← hes]; rfl
        have HB3 := Lib.hid (HB2.out.trans (hb3.mono HB2.out.size))
        clear hes hb3
        by_cases hee : ee = 0
        · subst hee
          obtain ⟨g1, g2⟩ := HOK.out rfl
          rw [HES.out] at g1 g2
          rw [← size_toL] at g2
          have HG1 := Lib.hid g1
          clear g1 HOK HBD
          go_wp2_with fail
          refine (decode_any es _ g2).mono ?_
          rw [HG1.out]
          rintro e w4 ⟨A4, n4, c4, rfl, a1, a2, a3, hb4⟩
          simp only at a1 ⊢
          have S4 := Lib.hid a1; have M4 := Lib.hid (Nat.le_trans a2 a3)
          have HB4 := Lib.hid (HB3.out.trans (hb4.mono HB3.out.size))
          clear a1 a2 a3 hb4
          go_wp2_with fail
          refine (sameUpds_any A4 A0 n4 c4 n0 c0 _ us us _ S4.out ((H0.out.below HB4.out hB).more (Nat.le_trans hB HB4.out.size)) M4.out).mono ?_
          rintro e w5 ⟨rfl, j, rfl⟩
          rw [show decide (us = us) = true by simp]
          have HB5 := Lib.hid (below_drewN' HB4.out j)
          go_wp2_with fail
          refine (awake_any _).mono ?_
          rintro e wz ⟨rfl, hbz⟩
          have HBz := Lib.hid (HB5.out.trans (hbz.mono HB5.out.size)); clear hbz
          go_wp2_with fail
          go_ret
          exact ⟨rfl, HBz.out⟩
        · have hne2 : (ee != 0) = true := by rw [bne_iff_ne]; exact hee
          have hem : toL es = [] := by rw [← HES.out]; exact HBD.out hee
          have u1 : es.toList = [] := by rw [ByteArray.toList_eq]; exact hem
          have u2 : (es.toList == ([] : List UInt8)) = true := by rw [u1]; rfl
          clear hee hem HOK HBD
          go_wp2_with fail
          refine (awake_any _).mono ?_
          rintro e wz ⟨rfl, hbz⟩
          have HBz := Lib.hid (HB3.out.trans (hbz.mono HB3.out.size)); clear hbz
          go_wp2_with fail
          go_ret
          exact ⟨rfl, HBz.out⟩
      · have hne : (de == 0) = false := by rw [beq_eq_false_iff_ne]; exact hde
        clear hde HDI
        go_wp2_with fail
        refine (HRE.out _ HB1.out).mono ?_
        generalize encR us = er at *
        obtain ⟨et, ee⟩ := er
        rintro e w3 ⟨rfl, hb3⟩
        simp only at HOK HBD ⊢
        obtain ⟨es, hes⟩ : ∃ es, ofL et = es := ⟨_, rfl⟩
        rw [hes]
        have HES : Hid (et = toL es) := by show _ = _; rw [← hes]; rfl
        have HB3 := Lib.hid (HB1.out.trans (hb3.mono HB1.out.size))
        clear hes hb3
        by_cases hee : ee = 0
        · subst hee
          obtain ⟨g1, g2⟩ := HOK.out rfl
          rw [HES.out] at g1 g2
          rw [← size_toL] at g2
          have HG1 := Lib.hid g1
          clear g1 HOK HBD
          go_wp2_with fail
          refine (decode_any es _ g2).mono ?_
          rw [HG1.out]
          rintro e w4 ⟨A4, n4, c4, rfl, a1, a2, a3, hb4⟩
          simp only at a1 ⊢
          have S4 := Lib.hid a1; have M4 := Lib.hid (Nat.le_trans a2 a3)
          have HB4 := Lib.hid (HB3.out.trans (hb4.mono HB3.out.size))
          clear a1 a2 a3 hb4
          go_wp2_with fail
          refine (sameUpds_any A4 A0 n4 c4 n0 c0 _ us us _ S4.out ((H0.out.below HB4.out hB).more (Nat.le_trans hB HB4.out.size)) M4.out).mono ?_
          rintro e w5 ⟨rfl, j, rfl⟩
          rw [show decide (us = us) = true by simp]
          have HB5 := Lib.hid (below_drewN' HB4.out j)
          go_wp2_with fail
          refine (awake_any _).mono ?_
          rintro e wz ⟨rfl, hbz⟩
          have HBz := Lib.hid (HB5.out.trans (hbz.mono HB5.out.size)); clear hbz
          go_wp2_with fail
          go_ret
          exact ⟨rfl, HBz.out⟩
        · have hne2 : (ee != 0) = true := by rw [bne_iff_ne]; exact hee
          have hem : toL es = [] := by rw [← HES.out]; exact HBD.out hee
          have u1 : es.toList = [] := by rw [ByteArray.toList_eq]; exact hem
          have u2 : (es.toList == ([] : List UInt8)) = true := by rw [u1]; rfl
          clear hee hem HOK HBD
          go_wp2_with fail
          refine (awake_any _).mono ?_
          rintro e wz ⟨rfl, hbz⟩
          have HBz := Lib.hid (HB3.out.trans (hbz.mono HB3.out.size)); clear hbz
          go_wp2_with fail
          go_ret
          exact ⟨rfl, HBz.out⟩
end Go.Proofs.YtikmiabncbhioaaDoor
