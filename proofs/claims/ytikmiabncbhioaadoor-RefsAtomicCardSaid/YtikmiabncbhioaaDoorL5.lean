/-
  RefsAtomic.
-/
import Derived.Test.YtikmiabncbhioaaDoorL4
namespace Go.Proofs.YtikmiabncbhioaaDoor
open Go.RowKit Go.Maps

theorem stepU_names {l : List Rf} {lg : List Upd} {u : Upd} (h : ∀ v ∈ lg, v.1.size ≤ maxLen) (hu : u.1.size ≤ maxLen) : ∀ v ∈ (stepU l lg u).2.1, v.1.size ≤ maxLen := by
  unfold stepU
  by_cases h1 : errU l u ≠ 0
  · rw [if_pos h1]; intro v hv; cases hv
  · rw [if_neg h1]
    by_cases h2 : 1000 ≤ lg.length
    · rw [if_pos h2]; intro v hv; cases hv
    · rw [if_neg h2]
      exact app_size h (fun v hv => by rw [List.mem_singleton.1 hv]; exact hu)

set_option maxRecDepth 100000 in
set_option maxHeartbeats 4000000 in
theorem law5_any (A0 A1 A2 : Option Addr) (n0 c0 n1 c1 n2 c2 B : Nat) (rs : List Rf) (log us : List Upd) (w : World) (h0 : Sl w B 3 A0 n0 (flat rfC rs)) (h1 : Sl w B 5 A1 n1 (flat upC log)) (h2 : Sl w B 5 A2 n2 (flat upC us)) (hB : B ≤ w.heap.size)
    (hnc : n0 ≤ c0) (hcm : c0 ≤ maxLen) (hnc1 : n1 ≤ c1) (hcm1 : c1 ≤ maxLen) (hn2 : n2 ≤ maxLen) (hs : ∀ u ∈ us, u.1.size ≤ maxLen) (hs2 : ∀ u ∈ log, u.1.size ≤ maxLen) :
    Calls Tryd.prog 5 #[.agg #[.slice A0 n0 c0, .slice A1 n1 c1], .slice A2 n2 c2] w fun e w' => e = .returned (.bool true) ∧ Below w.heap.size w w' := by
  have HL0 := Lib.hid (h0.len rfC_len (by omega)); have HL1 := Lib.hid (h1.len upC_len (by omega)); have HL2 := Lib.hid (h2.len upC_len (by omega))
  have H0 := Lib.hid h0; have H1 := Lib.hid h1; have H2 := Lib.hid h2; clear h0 h1 h2
  have HS := Lib.hid hs; have HS2 := Lib.hid hs2; clear hs hs2
  have HC := Lib.hid hcm; have HC1 := Lib.hid hcm1; have HN2 := Lib.hid hn2; clear hcm hcm1 hn2
  have HN1 := Lib.hid (Nat.le_trans hnc1 HC1.out); have HN0 := Lib.hid (Nat.le_trans hnc HC.out)
  go_enter Tryd.func5, Tryd.ntmps5
  go_wp2_with fail
  have hbel : Below w.heap.size w (w.alloc (.cells #[.slice A0 n0 c0, .slice A1 n1 c1] 25)) := (Below.refl _ w).alloc (Nat.le_refl _) _
  refine (great_any A0 A1 n0 c0 n1 c1 B rs log _ (H0.out.below hbel hB) (H1.out.below hbel hB) (by simp; omega) HN1.out).mono ?_
  rintro e w1 ⟨rfl, hb1⟩
  have k0 : Bk w1 w.heap.size 25 #[.slice A0 n0 c0, .slice A1 n1 c1] := (Bk.new w 25 _).below hb1 (by simp)
  have HB1 : Hid (Below w.heap.size w w1) := hbel.trans (hb1.mono (by simp))
  have hz1 : w.heap.size + 1 ≤ w1.heap.size := by have := hb1.size; simp at this; omega
  clear hb1 hbel
  have K0 := Lib.hid k0
  obtain ⟨x0, x1, _, _⟩ := k0.agg
  clear k0
  cases hg : greatB rs log with
  | true =>
    go_wp2_with fail
    refine (awake_any _).mono ?_
    rintro e w2 ⟨rfl, hb2⟩
    have HB2 := Lib.hid (HB1.out.trans (hb2.mono (by omega))); clear hb2
    go_wp2_with fail
    go_ret
    exact ⟨rfl, HB2.out⟩
  | false =>
    have hlens := great_small hg
    rw [HL0.out, HL1.out] at hlens
    obtain ⟨l0, l1⟩ := hlens
    clear hg
    go_wp2_with fail
    refine (many_any A2 n2 c2 B us _ (H2.out.below HB1.out hB) HN2.out).mono ?_
    rintro e w' ⟨rfl, rfl⟩
    cases hm : manyB us with
    | true =>
      go_wp2_with fail
      refine (awake_any _).mono ?_
      rintro e w2 ⟨rfl, hb2⟩
      have HB2 := Lib.hid (HB1.out.trans (hb2.mono (by omega))); clear hb2
      go_wp2_with fail
      go_ret
      exact ⟨rfl, HB2.out⟩
    | false =>
      have l2 := many_small hm
      rw [HL2.out] at l2
      clear hm
      go_wp2_with fail
      refine (apply_any A0 A1 A2 n0 c0 n1 c1 n2 c2 B rs log us _ (H0.out.below HB1.out hB) (H1.out.below HB1.out hB) (H2.out.below HB1.out hB) (by omega) HN0.out HN1.out (by omega) HS.out HS2.out).mono ?_
      have HAR : Hid (applyR rs log us = if checkE rs log ≠ 0 then ([], [], checkE rs log) else applyU rs log us) := rfl
      generalize hru : applyR rs log us = r at *
      clear hru
      obtain ⟨ra, rb, x⟩ := r
      rintro e w2 ⟨A3, n3, c3, A4, n4, c4, rfl, a1, a2, a3, a4, a5, a6, hb2⟩
      simp only at a1 a4 ⊢
      have hz2 : w1.heap.size ≤ w2.heap.size := hb2.size
      have K02 := Lib.hid ((K0.out.below hb2 (by omega)).alloc (.cells #[.slice A3 n3 c3, .slice A4 n4 c4] 25)); have K22 := Lib.hid (Bk.new w2 25 #[.slice A3 n3 c3, .slice A4 n4 c4])
      have HB2 : Hid (Below w.heap.size w (w2.alloc (.cells #[.slice A3 n3 c3, .slice A4 n4 c4] 25))) := (HB1.out.trans (hb2.mono (by omega))).alloc (by omega) _
      have S3 := Lib.hid (a1.boxed (.cells #[.slice A3 n3 c3, .slice A4 n4 c4] 25)); have S4 := Lib.hid (a4.boxed (.cells #[.slice A3 n3 c3, .slice A4 n4 c4] 25)); have M3 := Lib.hid (Nat.le_trans a2 a3); have M4 := Lib.hid (Nat.le_trans a5 a6)
      clear hb2 a1 a2 a3 a4 a5 a6 x0 x1
      obtain ⟨x0, x1, _, _⟩ := K02.out.agg
      go_wp2_with fail
      refine (check_any A0 A1 n0 c0 n1 c1 B rs log _ (H0.out.below HB2.out hB) (H1.out.below HB2.out hB) (by simp; omega) HN0.out HN1.out HS2.out).mono ?_
      rintro e w3 ⟨rfl, hb3⟩
      have hz3 : w2.heap.size + 1 ≤ w3.heap.size := by have := hb3.size; simp at this; omega
      have K03 := Lib.hid (K02.out.below hb3 (by simp; omega)); have K23 := Lib.hid (K22.out.below hb3 (by simp))
      have HB3 := Lib.hid (HB2.out.trans (hb3.mono (by simp; omega)))
      have T3 := Lib.hid (S3.out.on hb3); have T4 := Lib.hid (S4.out.on hb3)
      clear hb3 x0 x1 S3 S4 K02 K22
      by_cases hce : checkE rs log = 0
      · have HCE := Lib.hid hce
        have HAU : Hid ((ra, rb, x) = applyU rs log us) := by show _ = _; rw [HAR.out, hce]; simp
        rw [HCE.out]
        clear hce HAR
        obtain ⟨x0, x1, _, _⟩ := K03.out.agg
        have K04 := Lib.hid (K03.out.alloc (.cells #[.slice A0 n0 c0, .slice A1 n1 c1] 25)); have K24 := Lib.hid (K23.out.alloc (.cells #[.slice A0 n0 c0, .slice A1 n1 c1] 25)); have K84 := Lib.hid (Bk.new w3 25 #[.slice A0 n0 c0, .slice A1 n1 c1])
        have HB4 : Hid (Below w.heap.size w (w3.alloc (.cells #[.slice A0 n0 c0, .slice A1 n1 c1] 25))) := HB3.out.alloc (by omega) _
        have U3 := Lib.hid (T3.out.boxed (.cells #[.slice A0 n0 c0, .slice A1 n1 c1] 25)); have U4 := Lib.hid (T4.out.boxed (.cells #[.slice A0 n0 c0, .slice A1 n1 c1] 25))
        have G0 := Lib.hid ((H0.out.below HB4.out hB).more (show B ≤ (w3.alloc (.cells #[.slice A0 n0 c0, .slice A1 n1 c1] 25)).heap.size by simp; omega)); have G1 := Lib.hid ((H1.out.below HB4.out hB).more (show B ≤ (w3.alloc (.cells #[.slice A0 n0 c0, .slice A1 n1 c1] 25)).heap.size by simp; omega))
        go_wp2
        go_loopw [39] (fun i wr => ∃ (k : Nat) (A : Option Addr) (m c : Nat) (A' : Option Addr) (m' c' : Nat) (l : List Rf) (lg : List Upd), k ≤ n2 ∧ i = .int .i64 k ∧ Hid (Bk wr w2.heap.size 25 #[.slice A3 n3 c3, .slice A4 n4 c4]) ∧ Hid (Bk wr w3.heap.size 25 #[.slice A m c, .slice A' m' c']) ∧
          Hid (Sl wr wr.heap.size 3 A m (flat rfC l)) ∧ Hid (m ≤ maxLen) ∧ Hid (Sl wr wr.heap.size 5 A' m' (flat upC lg)) ∧ Hid (m' ≤ maxLen) ∧ Hid (Sl wr wr.heap.size 3 A3 n3 (flat rfC ra)) ∧ Hid (Sl wr wr.heap.size 5 A4 n4 (flat upC rb)) ∧
          Hid (∀ v ∈ lg, v.1.size ≤ maxLen) ∧ Hid (Below w.heap.size w wr) ∧ w3.heap.size + 1 ≤ wr.heap.size ∧ Hid (checkE l lg = 0) ∧ Hid ((ra, rb, x) = applyU l lg (us.drop k))) (fun i _ => n2 - (intOf i).toNat)
        case atStart => exact ⟨0, A0, n0, c0, A1, n1, c1, rs, log, Nat.zero_le _, rfl, K24.out, K84.out, G0.out, HN0.out, G1.out, HN1.out, U3.out, U4.out, HS2.out, HB4.out, by simp, HCE.out, HAU.out⟩
        case round =>
          obtain ⟨k, A, m, c, A', m', c', l, lg, hk, rfl, B5, B8, V0, Vm, V1, Vm', V3, V4, VS, hBel, hwz, VC, VA⟩ := hrel
          by_cases hlt : k < n2
          · obtain ⟨b, off, u, rfl, hbB, hu, y0, y1, y2, y3, y4⟩ := (H2.out.below hBel.out hB).upd hlt
            have HUk := Lib.hid hu
            have HUS := Lib.hid (HS.out u (List.mem_of_getElem? hu))
            clear hu
            have hst2 : Hid ((ra, rb, x) = if (stepU l lg u).2.2 ≠ 0 then ([], [], (stepU l lg u).2.2) else applyU (stepU l lg u).1 (stepU l lg u).2.1 (us.drop (k + 1))) := by
              show _ = _
              have hl := List.getElem?_eq_some_iff.1 HUk.out
              rw [VA.out, List.drop_eq_getElem_cons hl.1, hl.2, applyU_step]
            have hup : Hid (updateR l lg u = stepU l lg u) := by show _ = _; unfold updateR; rw [VC.out]; simp
            obtain ⟨s, ⟨o0, o1⟩, ⟨q0, q1⟩⟩ := u
            obtain ⟨p0, p1, _, _⟩ := B8.out.agg
            have hlz : (k : Int) < (n2 : Int) := by omega
            have B8a := B8.out.alloc (.cells #[.string s, .int .u64 o0, .int .u64 o1, .int .u64 q0, .int .u64 q1] 30)
            obtain ⟨r0, r1, _, _⟩ := B8a.agg
            clear B8a
            go_wp2_with fail
            refine (update_any A A' m c m' c' _ l lg (s, (o0, o1), (q0, q1)) _ (V0.out.boxed _) (V1.out.boxed _) (Nat.le_refl _) Vm.out Vm'.out HUS.out VS.out).mono ?_
            rw [hup.out]
            have HSN := Lib.hid (stepU_names (l := l) (u := (s, (o0, o1), (q0, q1))) VS.out HUS.out)
            have HSC : Hid ((stepU l lg (s, (o0, o1), (q0, q1))).2.2 = 0 → checkE (stepU l lg (s, (o0, o1), (q0, q1))).1 (stepU l lg (s, (o0, o1), (q0, q1))).2.1 = 0) := step_check VC.out
            generalize stepU l lg (s, (o0, o1), (q0, q1)) = st at *
            obtain ⟨l', lg', y⟩ := st
            rintro e w4 ⟨A5, n5, c5, A6, n6, c6, rfl, a1, a2, a3, a4, a5, a6, hb4⟩
            simp only at a1 a4 hst2 HSN HSC ⊢
            have hz4 : wr.heap.size + 1 ≤ w4.heap.size := by have := hb4.size; simp at this; omega
            have J5 := Lib.hid (((B5.out.alloc _).below hb4 (by simp; omega)).alloc (.cells #[.slice A5 n5 c5, .slice A6 n6 c6] 25)); have J8 := Lib.hid (((B8.out.alloc _).below hb4 (by simp; omega)).alloc (.cells #[.slice A5 n5 c5, .slice A6 n6 c6] 25)); have J11 := Lib.hid (Bk.new w4 25 #[.slice A5 n5 c5, .slice A6 n6 c6])
            have HB5 : Hid (Below w.heap.size w (w4.alloc (.cells #[.slice A5 n5 c5, .slice A6 n6 c6] 25))) := (((hBel.out.alloc (by omega) _).trans (hb4.mono (by simp; omega)))).alloc (by omega) _
            have X3 := Lib.hid (((V3.out.boxed _).on hb4).boxed (.cells #[.slice A5 n5 c5, .slice A6 n6 c6] 25)); have X4 := Lib.hid (((V4.out.boxed _).on hb4).boxed (.cells #[.slice A5 n5 c5, .slice A6 n6 c6] 25))
            have X5 := Lib.hid (a1.boxed (.cells #[.slice A5 n5 c5, .slice A6 n6 c6] 25)); have X6 := Lib.hid (a4.boxed (.cells #[.slice A5 n5 c5, .slice A6 n6 c6] 25)); have M5 := Lib.hid (Nat.le_trans a2 a3); have M6 := Lib.hid (Nat.le_trans a5 a6)
            clear hb4 a1 a2 a3 a4 a5 a6 p0 p1 r0 r1 y0 y1 y2 y3 y4
            by_cases hy : y = 0
            · subst hy
              have hnx : Hid ((ra, rb, x) = applyU l' lg' (us.drop (k + 1))) := by show _ = _; rw [hst2.out]; simp
              have HC2 := Lib.hid (HSC.out rfl)
              obtain ⟨p0, p1, g0, g1⟩ := J8.out.agg
              obtain ⟨r0, r1, _, _⟩ := J11.out.agg
              go_wp2
              go_roundw
              case rel => exact ⟨k + 1, A5, n5, c5, A6, n6, c6, l', lg', by omega, by go_num, (J5.out.far (p := ⟨w3.heap.size, 0, none⟩) (show w2.heap.size ≠ w3.heap.size by omega) _).far (p := ⟨w3.heap.size, 1, none⟩) (show w2.heap.size ≠ w3.heap.size by omega) _, J8.out.set2 _ _, (X5.out.box2 (by omega) (notSlice_rf _) J8.out _ _).more (Nat.le_of_eq (by simp)), M5.out, (X6.out.box2 (by omega) (notSlice_up _) J8.out _ _).more (Nat.le_of_eq (by simp)), M6.out, (X3.out.box2 (by omega) (notSlice_rf _) J8.out _ _).more (Nat.le_of_eq (by simp)), (X4.out.box2 (by omega) (notSlice_up _) J8.out _ _).more (Nat.le_of_eq (by simp)), HSN.out, below_set2 HB5.out (by omega) _ _, by simp; omega, HC2.out, hnx.out⟩
              case measure => simp [intOf]; omega
            · have hne : (y != 0) = true := by rw [bne_iff_ne]; exact hy
              have hfin : (ra, rb, x) = (([] : List Rf), ([] : List Upd), y) := by rw [hst2.out, if_pos hy]
              simp only [Prod.mk.injEq] at hfin
              obtain ⟨rfl, rfl, rfl⟩ := hfin
              clear hy
              obtain ⟨p0, p1, _, _⟩ := J5.out.agg
              go_wp2_with fail
              refine (same_any A3 A4 none none n3 c3 n4 c4 0 0 0 0 _ [] [] [] [] _ X3.out X4.out (Sl.nil _ _ _ _) (Sl.nil _ _ _ _) (Nat.le_refl _) M3.out M4.out).mono ?_
              rintro e w6 ⟨rfl, hb6⟩
              rw [show (decide (([] : List Rf) = []) && decide (([] : List Upd) = [])) = true by simp]
              have HB6 := Lib.hid (HB5.out.trans (hb6.mono (by simp; omega)))
              have hz6 : w4.heap.size + 1 ≤ w6.heap.size := by have := hb6.size; simp at this; omega
              clear hb6 p0 p1
              go_wp2_with fail
              refine (awake_any _).mono ?_
              rintro e w7 ⟨rfl, hb7⟩
              have HB7 := Lib.hid (HB6.out.trans (hb7.mono (by omega))); clear hb7
              go_wp2_with fail
              go_ret
              exact ⟨rfl, HB7.out⟩
          · have hfin : (ra, rb, x) = (l, lg, 0) := by
              rw [VA.out, List.drop_of_length_le (by rw [HL2.out]; omega)]; rfl
            simp only [Prod.mk.injEq] at hfin
            obtain ⟨rfl, rfl, rfl⟩ := hfin
            obtain ⟨p0, p1, _, _⟩ := B5.out.agg
            obtain ⟨r0, r1, _, _⟩ := B8.out.agg
            go_wp2_with fail
            refine (same_any A3 A4 A A' n3 c3 n4 c4 m c m' c' _ ra ra rb rb _ V3.out V4.out V0.out V1.out (Nat.le_refl _) M3.out M4.out).mono ?_
            rintro e w6 ⟨rfl, hb6⟩
            rw [show (decide (ra = ra) && decide (rb = rb)) = true by simp]
            have HB6 := Lib.hid (hBel.out.trans (hb6.mono (by omega)))
            have hz6 : wr.heap.size ≤ w6.heap.size := hb6.size
            clear hb6 p0 p1 r0 r1
            go_wp2_with fail
            refine (awake_any _).mono ?_
            rintro e w7 ⟨rfl, hb7⟩
            have HB7 := Lib.hid (HB6.out.trans (hb7.mono (by omega))); clear hb7
            go_wp2_with fail
            go_ret
            exact ⟨rfl, HB7.out⟩
      · have hne : (checkE rs log != 0) = true := by rw [bne_iff_ne]; exact hce
        have hfin : x = checkE rs log := by
          have := HAR.out
          rw [if_pos hce] at this
          simp only [Prod.mk.injEq] at this
          exact this.2.2
        subst hfin
        clear hce HAR
        go_wp2_with fail
        refine (awake_any _).mono ?_
        rintro e w7 ⟨rfl, hb7⟩
        have HB7 := Lib.hid (HB3.out.trans (hb7.mono (by omega))); clear hb7
        go_wp2_with fail
        go_ret
        exact ⟨rfl, HB7.out⟩
end Go.Proofs.YtikmiabncbhioaaDoor
