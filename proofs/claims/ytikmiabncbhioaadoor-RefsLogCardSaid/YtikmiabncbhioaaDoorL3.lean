/-
  RefsUpdate.
-/
import Derived.Test.YtikmiabncbhioaaDoorAwake
namespace Go.Proofs.YtikmiabncbhioaaDoor
open Go.RowKit Go.Maps

theorem great_small {rs : List Rf} {us : List Upd} (h : greatB rs us = false) : rs.length ≤ 12 ∧ us.length ≤ 12 := by
  unfold greatB manyB at h
  simp only [Bool.or_eq_false_iff, decide_eq_false_iff_not] at h
  omega
theorem many_small {us : List Upd} (h : manyB us = false) : us.length ≤ 12 := by
  unfold manyB at h
  simp only [Bool.or_eq_false_iff, decide_eq_false_iff_not] at h
  omega

set_option maxRecDepth 100000 in
set_option maxHeartbeats 4000000 in
theorem law3_any (A0 A1 A2 : Option Addr) (n0 c0 n1 c1 n2 c2 B : Nat) (rs : List Rf) (log us : List Upd) (u : Upd) (w : World) (h0 : Sl w B 3 A0 n0 (flat rfC rs)) (h1 : Sl w B 5 A1 n1 (flat upC log)) (h2 : Sl w B 5 A2 n2 (flat upC us)) (hB : B ≤ w.heap.size)
    (hnc : n0 ≤ c0) (hcm : c0 ≤ maxLen) (hnc1 : n1 ≤ c1) (hcm1 : c1 ≤ maxLen) (hn2 : n2 ≤ maxLen) (hs : ∀ u ∈ us, u.1.size ≤ maxLen) (hs2 : ∀ u ∈ log, u.1.size ≤ maxLen) (hsu : u.1.size ≤ maxLen) :
    Calls Tryd.prog 3 #[.agg #[.slice A0 n0 c0, .slice A1 n1 c1], updV u, .slice A2 n2 c2] w fun e w' => e = .returned (.bool true) ∧ Below w.heap.size w w' := by
  have HL0 := Lib.hid (h0.len rfC_len (by omega)); have HL1 := Lib.hid (h1.len upC_len (by omega)); have HL2 := Lib.hid (h2.len upC_len (by omega))
  have H0 := Lib.hid h0; have H1 := Lib.hid h1; have H2 := Lib.hid h2; clear h0 h1 h2
  have HS := Lib.hid hs; have HS2 := Lib.hid hs2; have HSU := Lib.hid hsu; clear hs hs2 hsu
  have HC := Lib.hid hcm; have HC1 := Lib.hid hcm1; have HN2 := Lib.hid hn2; clear hcm hcm1 hn2
  have HN1 := Lib.hid (Nat.le_trans hnc1 HC1.out)
  obtain ⟨s, ⟨o0, o1⟩, ⟨q0, q1⟩⟩ := u
  show Calls Tryd.prog 3 #[.agg #[.slice A0 n0 c0, .slice A1 n1 c1], .agg #[.string s, .int .u64 o0, .int .u64 o1, .int .u64 q0, .int .u64 q1], .slice A2 n2 c2] w _
  go_enter Tryd.func3, Tryd.ntmps3
  go_wp2_with fail
  have hbel : Below w.heap.size w ((w.alloc (.cells #[.slice A0 n0 c0, .slice A1 n1 c1] 25)).alloc (.cells #[.string s, .int .u64 o0, .int .u64 o1, .int .u64 q0, .int .u64 q1] 30)) :=
    ((Below.refl _ w).alloc (Nat.le_refl _) _).alloc (by simp) _
  refine (great_any A0 A1 n0 c0 n1 c1 B rs log _ (H0.out.below hbel hB) (H1.out.below hbel hB) (by simp; omega) HN1.out).mono ?_
  rintro e w1 ⟨rfl, hb1⟩
  have k0 : Bk w1 w.heap.size 25 #[.slice A0 n0 c0, .slice A1 n1 c1] := ((Bk.new w 25 _).alloc _).below hb1 (by simp; omega)
  have k1 : Bk w1 (w.heap.size + 1) 30 #[.string s, .int .u64 o0, .int .u64 o1, .int .u64 q0, .int .u64 q1] := by
    have := Bk.new (w.alloc (.cells #[.slice A0 n0 c0, .slice A1 n1 c1] 25)) 30 #[.string s, .int .u64 o0, .int .u64 o1, .int .u64 q0, .int .u64 q1]
    rw [World.size_alloc] at this
    exact this.below hb1 (by simp)
  have HB1 : Hid (Below w.heap.size w w1) := hbel.trans (hb1.mono (by simp; omega))
  have hz1 : w.heap.size + 2 ≤ w1.heap.size := by have := hb1.size; simp at this; omega
  clear hb1 hbel
  have K0 := Lib.hid k0; have K1 := Lib.hid k1
  obtain ⟨x0, x1, _, _⟩ := k0.agg
  have u0 := k1.cell 0; have u1 := k1.cell 1; have u2 := k1.cell 2; have u3 := k1.cell 3; have u4 := k1.cell 4
  simp at u0 u1 u2 u3 u4
  clear k0 k1
  cases hg : greatB rs log with
  | true =>
    go_wp2_with fail
    refine (awake_any _).mono ?_
    rintro e w2 ⟨rfl, hb2⟩
    have HB2 := Lib.hid (HB1.out.trans (hb2.mono (by omega))); clear hb2
    go_wp2_with fail
    go_ret
    exact ⟨rfl, HB2.out⟩
  | false =>
    have hlens := great_small hg
    rw [HL0.out, HL1.out] at hlens
    obtain ⟨l0, l1⟩ := hlens
    clear hg
    go_wp2_with fail
    refine (many_any A2 n2 c2 B us _ (H2.out.below HB1.out hB) HN2.out).mono ?_
    rintro e w' ⟨rfl, rfl⟩
    cases hm : manyB us with
    | true =>
      go_wp2_with fail
      refine (awake_any _).mono ?_
      rintro e w2 ⟨rfl, hb2⟩
      have HB2 := Lib.hid (HB1.out.trans (hb2.mono (by omega))); clear hb2
      go_wp2_with fail
      go_ret
      exact ⟨rfl, HB2.out⟩
    | false =>
      have l2 := many_small hm
      rw [HL2.out] at l2
      clear hm
      by_cases hlen : 150 < s.size
      · go_wp2_with fail
        refine (awake_any _).mono ?_
        rintro e w2 ⟨rfl, hb2⟩
        have HB2 := Lib.hid (HB1.out.trans (hb2.mono (by omega))); clear hb2
        go_wp2_with fail
        go_ret
        exact ⟨rfl, HB2.out⟩
      · go_wp2_with fail
        refine (update_any A0 A1 n0 c0 n1 c1 B rs log (s, (o0, o1), (q0, q1)) _ (H0.out.below HB1.out hB) (H1.out.below HB1.out hB) (by omega) (Nat.le_trans hnc HC.out) HN1.out HSU.out HS2.out).mono ?_
        generalize hru : updateR rs log (s, (o0, o1), (q0, q1)) = r
        have HRU := Lib.hid hru; clear hru
        obtain ⟨ra, rb, x⟩ := r
        rintro e w2 ⟨A3, n3, c3, A4, n4, c4, rfl, a1, a2, a3, a4, a5, a6, hb2⟩
        simp only at a1 a4 ⊢
        have hz2 : w1.heap.size ≤ w2.heap.size := hb2.size
        have K02 := Lib.hid ((K0.out.below hb2 (by omega)).alloc (.cells #[.slice A3 n3 c3, .slice A4 n4 c4] 25)); have K12 := Lib.hid ((K1.out.below hb2 (by omega)).alloc (.cells #[.slice A3 n3 c3, .slice A4 n4 c4] 25)); have K22 := Lib.hid (Bk.new w2 25 #[.slice A3 n3 c3, .slice A4 n4 c4])
        have HB2 : Hid (Below w.heap.size w (w2.alloc (.cells #[.slice A3 n3 c3, .slice A4 n4 c4] 25))) := (HB1.out.trans (hb2.mono (by omega))).alloc (by omega) _
        have S3 := Lib.hid (a1.boxed (.cells #[.slice A3 n3 c3, .slice A4 n4 c4] 25)); have S4 := Lib.hid (a4.boxed (.cells #[.slice A3 n3 c3, .slice A4 n4 c4] 25)); have M3 := Lib.hid (Nat.le_trans a2 a3); have M4 := Lib.hid (Nat.le_trans a5 a6)
        clear hb2 a1 a2 a3 a4 a5 a6 x0 x1 u0 u1 u2 u3 u4
        obtain ⟨x0, x1, _, _⟩ := K02.out.agg
        have u0 := K12.out.cell 0; have u1 := K12.out.cell 1; have u2 := K12.out.cell 2; have u3 := K12.out.cell 3; have u4 := K12.out.cell 4
        simp at u0 u1 u2 u3 u4
        go_wp2_with fail
        refine (refUpdate_any A0 A1 n0 c0 n1 c1 B rs log (s, (o0, o1), (q0, q1)) _ (H0.out.below HB2.out hB) (H1.out.below HB2.out hB) (by simp; omega) hnc HC.out (by omega) HN1.out HSU.out HS2.out).mono ?_
        rw [HRU.out]
        rintro e w3 ⟨A5, n5, c5, A6, n6, c6, rfl, a1, a2, a3, a4, a5, a6, hb3⟩
        simp only at a1 a4 ⊢
        have hz3 : w2.heap.size + 1 ≤ w3.heap.size := by have := hb3.size; simp at this; omega
        have K03 := Lib.hid ((K02.out.below hb3 (by simp; omega)).alloc (.cells #[.slice A5 n5 c5, .slice A6 n6 c6] 25)); have K23 := Lib.hid ((K22.out.below hb3 (by simp)).alloc (.cells #[.slice A5 n5 c5, .slice A6 n6 c6] 25)); have K33 := Lib.hid (Bk.new w3 25 #[.slice A5 n5 c5, .slice A6 n6 c6])
        have HB3 : Hid (Below w.heap.size w (w3.alloc (.cells #[.slice A5 n5 c5, .slice A6 n6 c6] 25))) := (HB2.out.trans (hb3.mono (by simp; omega))).alloc (by omega) _
        have T3 := Lib.hid ((S3.out.on hb3).boxed (.cells #[.slice A5 n5 c5, .slice A6 n6 c6] 25)); have T4 := Lib.hid ((S4.out.on hb3).boxed (.cells #[.slice A5 n5 c5, .slice A6 n6 c6] 25))
        have T5 := Lib.hid (a1.boxed (.cells #[.slice A5 n5 c5, .slice A6 n6 c6] 25)); have T6 := Lib.hid (a4.boxed (.cells #[.slice A5 n5 c5, .slice A6 n6 c6] 25))
        clear hb3 a1 a2 a3 a4 a5 a6 x0 x1 u0 u1 u2 u3 u4 S3 S4 K02 K12 K22
        obtain ⟨x0, x1, _, _⟩ := K03.out.agg
        go_wp2_with fail
        refine (apply_any A0 A1 A2 n0 c0 n1 c1 n2 c2 B rs log us _ (H0.out.below HB3.out hB) (H1.out.below HB3.out hB) (H2.out.below HB3.out hB) (by simp; omega) (Nat.le_trans hnc HC.out) HN1.out (by omega) HS.out HS2.out).mono ?_
        generalize hru : applyR rs log us = r
        have HRA := Lib.hid hru; clear hru
        obtain ⟨rc, rd, y⟩ := r
        rintro e w4 ⟨A7, n7, c7, A8, n8, c8, rfl, a1, a2, a3, a4, a5, a6, hb4⟩
        simp only at a1 a4 ⊢
        have hz4 : w3.heap.size + 1 ≤ w4.heap.size := by have := hb4.size; simp at this; omega
        have K04 := Lib.hid ((K03.out.below hb4 (by simp; omega)).alloc (.cells #[.slice A7 n7 c7, .slice A8 n8 c8] 25)); have K24 := Lib.hid ((K23.out.below hb4 (by simp; omega)).alloc (.cells #[.slice A7 n7 c7, .slice A8 n8 c8] 25)); have K34 := Lib.hid ((K33.out.below hb4 (by simp)).alloc (.cells #[.slice A7 n7 c7, .slice A8 n8 c8] 25)); have K44 := Lib.hid (Bk.new w4 25 #[.slice A7 n7 c7, .slice A8 n8 c8])
        have HB4 : Hid (Below w.heap.size w (w4.alloc (.cells #[.slice A7 n7 c7, .slice A8 n8 c8] 25))) := (HB3.out.trans (hb4.mono (by simp; omega))).alloc (by omega) _
        have U3 := Lib.hid ((T3.out.on hb4).boxed (.cells #[.slice A7 n7 c7, .slice A8 n8 c8] 25)); have U4 := Lib.hid ((T4.out.on hb4).boxed (.cells #[.slice A7 n7 c7, .slice A8 n8 c8] 25))
        have U5 := Lib.hid ((T5.out.on hb4).boxed (.cells #[.slice A7 n7 c7, .slice A8 n8 c8] 25)); have U6 := Lib.hid ((T6.out.on hb4).boxed (.cells #[.slice A7 n7 c7, .slice A8 n8 c8] 25))
        have U7 := Lib.hid (a1.boxed (.cells #[.slice A7 n7 c7, .slice A8 n8 c8] 25)); have U8 := Lib.hid (a4.boxed (.cells #[.slice A7 n7 c7, .slice A8 n8 c8] 25)); have M7 := Lib.hid (Nat.le_trans a2 a3); have M8 := Lib.hid (Nat.le_trans a5 a6)
        clear hb4 a1 a2 a3 a4 a5 a6 x0 x1 T3 T4 T5 T6 K03 K23 K33
        obtain ⟨x0, x1, _, _⟩ := K04.out.agg
        go_wp2_with fail
        refine (refApply_any A0 A1 A2 n0 c0 n1 c1 n2 c2 B rs log us _ (H0.out.below HB4.out hB) (H1.out.below HB4.out hB) (H2.out.below HB4.out hB) (by simp; omega) hnc HC.out hnc1 HC1.out (by omega) (by omega) HS.out HS2.out).mono ?_
        rw [HRA.out]
        rintro e w5 ⟨A9, n9, c9, A10, n10, c10, rfl, a1, a2, a3, a4, a5, a6, hb5⟩
        simp only at a1 a4 ⊢
        have hz5 : w4.heap.size + 1 ≤ w5.heap.size := by have := hb5.size; simp at this; omega
        have K25 := Lib.hid ((K24.out.below hb5 (by simp; omega)).alloc (.cells #[.slice A9 n9 c9, .slice A10 n10 c10] 25)); have K35 := Lib.hid ((K34.out.below hb5 (by simp; omega)).alloc (.cells #[.slice A9 n9 c9, .slice A10 n10 c10] 25)); have K45 := Lib.hid ((K44.out.below hb5 (by simp)).alloc (.cells #[.slice A9 n9 c9, .slice A10 n10 c10] 25)); have K55 := Lib.hid (Bk.new w5 25 #[.slice A9 n9 c9, .slice A10 n10 c10])
        have HB5 : Hid (Below w.heap.size w (w5.alloc (.cells #[.slice A9 n9 c9, .slice A10 n10 c10] 25))) := (HB4.out.trans (hb5.mono (by simp; omega))).alloc (by omega) _
        have V3 := Lib.hid ((U3.out.on hb5).boxed (.cells #[.slice A9 n9 c9, .slice A10 n10 c10] 25)); have V4 := Lib.hid ((U4.out.on hb5).boxed (.cells #[.slice A9 n9 c9, .slice A10 n10 c10] 25))
        have V5 := Lib.hid ((U5.out.on hb5).boxed (.cells #[.slice A9 n9 c9, .slice A10 n10 c10] 25)); have V6 := Lib.hid ((U6.out.on hb5).boxed (.cells #[.slice A9 n9 c9, .slice A10 n10 c10] 25))
        have V7 := Lib.hid ((U7.out.on hb5).boxed (.cells #[.slice A9 n9 c9, .slice A10 n10 c10] 25)); have V8 := Lib.hid ((U8.out.on hb5).boxed (.cells #[.slice A9 n9 c9, .slice A10 n10 c10] 25))
        have V9 := Lib.hid (a1.boxed (.cells #[.slice A9 n9 c9, .slice A10 n10 c10] 25)); have V10 := Lib.hid (a4.boxed (.cells #[.slice A9 n9 c9, .slice A10 n10 c10] 25))
        clear hb5 a1 a2 a3 a4 a5 a6 x0 x1 U3 U4 U5 U6 U7 U8 K04 K24 K34 K44
        obtain ⟨p0, p1, _, _⟩ := K25.out.agg
        obtain ⟨r0, r1, _, _⟩ := K35.out.agg
        go_wp2_with fail
        refine (same_any A3 A4 A5 A6 n3 c3 n4 c4 n5 c5 n6 c6 _ ra ra rb rb _ V3.out V4.out V5.out V6.out (Nat.le_refl _) M3.out M4.out).mono ?_
        rintro e w6 ⟨rfl, hb6⟩
        rw [show (decide (ra = ra) && decide (rb = rb)) = true by simp]
        have hz6 : w5.heap.size + 1 ≤ w6.heap.size := by have := hb6.size; simp at this; omega
        have K46 := Lib.hid (K45.out.below hb6 (by simp; omega)); have K56 := Lib.hid (K55.out.below hb6 (by simp))
        have HB6 : Hid (Below w.heap.size w w6) := HB5.out.trans (hb6.mono (by simp; omega))
        have X7 := Lib.hid (V7.out.on hb6); have X8 := Lib.hid (V8.out.on hb6); have X9 := Lib.hid (V9.out.on hb6); have X10 := Lib.hid (V10.out.on hb6)
        clear hb6 p0 p1 r0 r1 V3 V4 V5 V6 V7 V8 V9 V10 K25 K35 K45 K55
        obtain ⟨p0, p1, _, _⟩ := K46.out.agg
        obtain ⟨r0, r1, _, _⟩ := K56.out.agg
        go_wp2_with fail
        refine (same_any A7 A8 A9 A10 n7 c7 n8 c8 n9 c9 n10 c10 _ rc rc rd rd _ X7.out X8.out X9.out X10.out (Nat.le_refl _) M7.out M8.out).mono ?_
        rintro e w7 ⟨rfl, hb7⟩
        rw [show (decide (rc = rc) && decide (rd = rd)) = true by simp]
        have HB7 : Hid (Below w.heap.size w w7) := HB6.out.trans (hb7.mono (by omega))
        have hz7 := hb7.size
        clear hb7 p0 p1 r0 r1
        go_wp2_with fail
        refine (awake_any _).mono ?_
        rintro e w8 ⟨rfl, hb8⟩
        have HB8 := Lib.hid (HB7.out.trans (hb8.mono (by omega))); clear hb8
        go_wp2_with fail
        go_ret
        exact ⟨rfl, HB8.out⟩
end Go.Proofs.YtikmiabncbhioaaDoor
