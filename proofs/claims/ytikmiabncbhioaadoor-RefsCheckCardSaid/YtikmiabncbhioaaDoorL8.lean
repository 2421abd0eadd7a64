/-
  RefsCheck.
-/
import Derived.Test.YtikmiabncbhioaaDoorL3
import Derived.Test.YtikmiabncbhioaaDoorRAt
namespace Go.Proofs.YtikmiabncbhioaaDoor
open Go.RowKit Go.Maps

theorem held6 {w w' : World} {B b0 b1 b2 : Nat} {t0 t1 t2 : TypeId} {p q r s t u : Value} (h0 : Bk w b0 t0 #[p, q]) (h1 : Bk w b1 t1 #[r, s]) (h2 : Bk w b2 t2 #[t, u]) (hb : Below B w w') (l0 : b0 < B) (l1 : b1 < B) (l2 : b2 < B) :
    Hid (w'.cell? ⟨b0, 0, none⟩ = some p ∧ w'.cell? ⟨b0, 1, none⟩ = some q ∧ w'.cell? ⟨b1, 0, none⟩ = some r ∧ w'.cell? ⟨b1, 1, none⟩ = some s ∧ w'.cell? ⟨b2, 0, none⟩ = some t ∧ w'.cell? ⟨b2, 1, none⟩ = some u) :=
  ⟨(h0.below hb l0).cell 0, (h0.below hb l0).cell 1, (h1.below hb l1).cell 0, (h1.below hb l1).cell 1, (h2.below hb l2).cell 0, (h2.below hb l2).cell 1⟩

set_option maxRecDepth 100000 in
set_option maxHeartbeats 8000000 in
theorem law8_any (A0 A1 : Option Addr) (n0 c0 n1 c1 B : Nat) (rs : List Rf) (log : List Upd) (s : ByteArray) (n : Int) (w : World) (h0 : Sl w B 3 A0 n0 (flat rfC rs)) (h1 : Sl w B 5 A1 n1 (flat upC log)) (hB : B ≤ w.heap.size)
    (hnc : n0 ≤ c0) (hcm : c0 ≤ maxLen) (hnc1 : n1 ≤ c1) (hcm1 : c1 ≤ maxLen) (hs2 : ∀ u ∈ log, u.1.size ≤ maxLen) (hs : s.size ≤ maxLen) :
    Calls Tryd.prog 8 #[.agg #[.slice A0 n0 c0, .slice A1 n1 c1], .string s, .int .i64 n] w fun e w' => e = .returned (.bool true) ∧ Below w.heap.size w w' := by
  have HL0 := Lib.hid (h0.len rfC_len (by omega)); have HL1 := Lib.hid (h1.len upC_len (by omega))
  have H0 := Lib.hid h0; have H1 := Lib.hid h1; clear h0 h1
  have HS2 := Lib.hid hs2; have HSU := Lib.hid hs; clear hs2 hs
  have HC := Lib.hid hcm; have HC1 := Lib.hid hcm1; clear hcm hcm1
  have HN1 := Lib.hid (Nat.le_trans hnc1 HC1.out); have HN0 := Lib.hid (Nat.le_trans hnc HC.out)
  go_enter Tryd.func8, Tryd.ntmps8
  go_wp2_with fail
  have hbel : Below w.heap.size w (w.alloc (.cells #[.slice A0 n0 c0, .slice A1 n1 c1] 25)) := (Below.refl _ w).alloc (Nat.le_refl _) _
  refine (great_any A0 A1 n0 c0 n1 c1 B rs log _ (H0.out.below hbel hB) (H1.out.below hbel hB) (by simp; omega) HN1.out).mono ?_
  rintro e w1 ⟨rfl, hb1⟩
  have k0 : Bk w1 w.heap.size 25 #[.slice A0 n0 c0, .slice A1 n1 c1] := (Bk.new w 25 _).below hb1 (by simp)
  have HB1 : Hid (Below w.heap.size w w1) := hbel.trans (hb1.mono (by simp))
  have hz1 : w.heap.size + 1 ≤ w1.heap.size := by have := hb1.size; simp at this; omega
  clear hb1 hbel
  have K0 := Lib.hid k0
  obtain ⟨x0, x1, _, _⟩ := k0.agg
  clear k0
  cases hg : greatB rs log with
  | true =>
    go_wp2_with fail
    refine (awake_any _).mono ?_
    rintro e wz ⟨rfl, hbz⟩
    have HBz := Lib.hid (HB1.out.trans (hbz.mono (by omega))); clear hbz
    go_wp2_with fail
    go_ret
    exact ⟨rfl, HBz.out⟩
  | false =>
    have hlens := great_small hg
    rw [HL0.out, HL1.out] at hlens
    obtain ⟨l0, l1⟩ := hlens
    clear hg
    by_cases hlen : 150 < s.size
    · go_wp2_with fail
      refine (awake_any _).mono ?_
      rintro e wz ⟨rfl, hbz⟩
      have HBz := Lib.hid (HB1.out.trans (hbz.mono (by omega))); clear hbz
      go_wp2_with fail
      go_ret
      exact ⟨rfl, HBz.out⟩
    · go_wp2_with fail
      refine (goGet_any A0 A1 n0 c0 n1 c1 B rs log s _ (H0.out.below HB1.out hB) (H1.out.below HB1.out hB) (by omega) HN0.out HN1.out HSU.out HS2.out).mono ?_
      generalize hgr : getR rs log s = gr
      have HGR := Lib.hid hgr; clear hgr
      obtain ⟨⟨g0, g1⟩, ge⟩ := gr
      rintro e w2 ⟨rfl, hb2⟩
      simp only
      have hz2 := hb2.size
      have K02 := Lib.hid ((K0.out.below hb2 (by omega)).alloc (.cells #[.int .u64 g0, .int .u64 g1] 28)); have K72 := Lib.hid (Bk.new w2 28 #[.int .u64 g0, .int .u64 g1])
      have HB2 : Hid (Below w.heap.size w (w2.alloc (.cells #[.int .u64 g0, .int .u64 g1] 28))) := (HB1.out.trans (hb2.mono (by omega))).alloc (by omega) _
      clear hb2 x0 x1
      obtain ⟨x0, x1, _, _⟩ := K02.out.agg
      go_wp2_with fail
      refine (refGet_any A0 A1 n0 c0 n1 c1 B rs log s _ (H0.out.below HB2.out hB) (H1.out.below HB2.out hB) (by simp; omega) HN0.out HN1.out HSU.out HS2.out).mono ?_
      rw [HGR.out]
      rintro e w3 ⟨rfl, hb3⟩
      simp only
      have hz3 : w2.heap.size + 1 ≤ w3.heap.size := by have := hb3.size; simp at this; omega
      have K03 := Lib.hid ((K02.out.below hb3 (by simp; omega)).alloc (.cells #[.int .u64 g0, .int .u64 g1] 28)); have K73 := Lib.hid ((K72.out.below hb3 (by simp)).alloc (.cells #[.int .u64 g0, .int .u64 g1] 28)); have K93 := Lib.hid (Bk.new w3 28 #[.int .u64 g0, .int .u64 g1])
      have HB3 : Hid (Below w.heap.size w (w3.alloc (.cells #[.int .u64 g0, .int .u64 g1] 28))) := (HB2.out.trans (hb3.mono (by simp; omega))).alloc (by omega) _
      clear hb3 x0 x1
      obtain ⟨x0, x1, _, _⟩ := K03.out.agg
      go_wp2_with fail
      refine (goAt_any A0 A1 n0 c0 n1 c1 B rs log n _ (H0.out.below HB3.out hB) (H1.out.below HB3.out hB) (by simp; omega) HN0.out hnc1 HC1.out HS2.out).mono ?_
      generalize hgr : atR rs log n = ar
      have HAR := Lib.hid hgr; clear hgr
      obtain ⟨al, ae⟩ := ar
      rintro e w4 ⟨A3, n3, c3, rfl, a1, a2, a3, hb4⟩
      simp only at a1 ⊢
      have hz4 : w3.heap.size + 1 ≤ w4.heap.size := by have := hb4.size; simp at this; omega
      have K04 := Lib.hid (K03.out.below hb4 (by simp; omega)); have K74 := Lib.hid (K73.out.below hb4 (by simp; omega)); have K94 := Lib.hid (K93.out.below hb4 (by simp))
      have HB4 : Hid (Below w.heap.size w w4) := HB3.out.trans (hb4.mono (by simp; omega))
      have S3 := Lib.hid a1; have M3 := Lib.hid (Nat.le_trans a2 a3)
      clear hb4 a1 a2 a3 x0 x1
      obtain ⟨x0, x1, _, _⟩ := K04.out.agg
      go_wp2_with fail
      refine (refAt_any A0 A1 n0 c0 n1 c1 B rs log n _ (H0.out.below HB4.out hB) (H1.out.below HB4.out hB) (by omega) HN0.out hnc1 HC1.out HS2.out).mono ?_
      rw [HAR.out]
      rintro e w5 ⟨A4, n4, c4, rfl, a1, a2, a3, hb5⟩
      simp only at a1 ⊢
      have hz5 : w4.heap.size ≤ w5.heap.size := hb5.size
      have K05 := Lib.hid (K04.out.below hb5 (by omega)); have K75 := Lib.hid (K74.out.below hb5 (by omega)); have K95 := Lib.hid (K94.out.below hb5 (by omega))
      have HB5 : Hid (Below w.heap.size w w5) := HB4.out.trans (hb5.mono (by omega))
      have T3 := Lib.hid (S3.out.on hb5); have T4 := Lib.hid a1; have M4 := Lib.hid (Nat.le_trans a2 a3)
      clear hb5 a1 a2 a3 x0 x1
      have V0 := Lib.hid (H0.out.below HB5.out hB); have V1 := Lib.hid (H1.out.below HB5.out hB)
      obtain ⟨x0, x1, _, _⟩ := K05.out.agg
      obtain ⟨y0, y1, _, _⟩ := K75.out.agg
      obtain ⟨z0, z1, _, _⟩ := K95.out.agg
      obtain ⟨ce, hce⟩ : ∃ x, checkE rs log = x := ⟨_, rfl⟩
      have HCE := Lib.hid hce; clear hce
      go_wp2_with fail
      go_region_held3 (fun w' => w'.cell? ⟨w.heap.size, 0, none⟩ = some (.slice A0 n0 c0) ∧ w'.cell? ⟨w.heap.size, 1, none⟩ = some (.slice A1 n1 c1) ∧ w'.cell? ⟨w2.heap.size, 0, none⟩ = some (.int .u64 g0) ∧ w'.cell? ⟨w2.heap.size, 1, none⟩ = some (.int .u64 g1) ∧ w'.cell? ⟨w3.heap.size, 0, none⟩ = some (.int .u64 g0) ∧ w'.cell? ⟨w3.heap.size, 1, none⟩ = some (.int .u64 g1))
        (first | exact ⟨x0, x1, y0, y1, z0, z1⟩ | exact S6.out | exact S7.out | exact S8.out)
        (first
          | (go_at_call 20; refine (check_any A0 A1 n0 c0 n1 c1 B rs log _ V0.out.drew V1.out.drew (by show B ≤ w5.heap.size; omega) HN0.out HN1.out HS2.out).mono ?_; rintro e w6 ⟨rfl, hb6⟩; rw [HCE.out]
             have S6 := held6 K05.out.drew K75.out.drew K95.out.drew hb6 (by show _ < w5.heap.size; omega) (by show _ < w5.heap.size; omega) (by show _ < w5.heap.size; omega)
             have Y6 := Lib.hid hb6; clear hb6)
          | (go_at_call 26; refine (refCheck_any A0 A1 n0 c0 n1 c1 B rs log _ (V0.out.drew.below Y6.out (by show B ≤ w5.heap.size; omega)) (V1.out.drew.below Y6.out (by show B ≤ w5.heap.size; omega)) (Nat.le_trans (show B ≤ w5.heap.size by omega) Y6.out.size) HN1.out HS2.out).mono ?_; rintro e w7 ⟨rfl, hb7⟩; rw [HCE.out]
             have Y7 := Lib.hid (Y6.out.trans (hb7.mono Y6.out.size)); clear hb7
             have S7 := held6 K05.out.drew K75.out.drew K95.out.drew Y7.out (by show _ < w5.heap.size; omega) (by show _ < w5.heap.size; omega) (by show _ < w5.heap.size; omega))
          | (go_at_call 19; refine (sameRefs_any A3 A4 n3 c3 n4 c4 _ al al _ (T3.out.drew.on Y7.out) (T4.out.drew.on Y7.out) M3.out).mono ?_; rintro e w8 ⟨rfl, j, rfl⟩; rw [show decide (al = al) = true by simp])
          | (go_at_call 13; refine (awake_any _).mono ?_; rintro e w9 ⟨rfl, hb9⟩
             have Y9 := Lib.hid (Below.trans (below_drewN' Y7.out j) (hb9.mono Y7.out.size)); clear hb9
             have S8 := held6 K05.out.drew K75.out.drew K95.out.drew Y9.out (by show _ < w5.heap.size; omega) (by show _ < w5.heap.size; omega) (by show _ < w5.heap.size; omega)))
      go_wp2_with fail
      go_ret
      exact ⟨rfl, HB5.out.drew.trans (Y9.out.mono (by show _ ≤ w5.heap.size; omega))⟩
end Go.Proofs.YtikmiabncbhioaaDoor
