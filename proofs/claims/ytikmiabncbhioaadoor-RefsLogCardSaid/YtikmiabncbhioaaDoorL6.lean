/-
  RefsLog.
-/
import Derived.Test.YtikmiabncbhioaaDoorL4
import Derived.Test.YtikmiabncbhioaaDoorLaw6
namespace Go.Proofs.YtikmiabncbhioaaDoor
open Go.RowKit Go.Maps

theorem apply_facts {rs : List Rf} {log us : List Upd} (hl : log.length + us.length ≤ 1000) (h : (applyR rs log us).2.2 = 0) :
    (applyR rs log us).2.1 = log ++ us ∧ checkE rs log = 0 ∧ checkE (applyR rs log us).1 (applyR rs log us).2.1 = 0 := by
  obtain ⟨h1, h2, h3, h4⟩ := apply_ok hl h
  rw [h2]
  exact ⟨rfl, h1, h4⟩

theorem held3 {w w' : World} {B b0 b1 : Nat} {t0 t1 : TypeId} {p q r s : Value} (h0 : Bk w b0 t0 #[p, q]) (h1 : Bk w b1 t1 #[r, s]) (hb : Below B w w') (l0 : b0 < B) (l1 : b1 < B) :
    Hid (w'.cell? ⟨b0, 1, none⟩ = some q ∧ w'.cell? ⟨b1, 0, none⟩ = some r ∧ w'.cell? ⟨b1, 1, none⟩ = some s) :=
  ⟨(h0.below hb l0).cell 1, (h1.below hb l1).cell 0, (h1.below hb l1).cell 1⟩

set_option maxRecDepth 100000 in
set_option maxHeartbeats 8000000 in
theorem law6_any (A0 A1 A2 : Option Addr) (n0 c0 n1 c1 n2 c2 B : Nat) (rs : List Rf) (log us : List Upd) (w : World) (h0 : Sl w B 3 A0 n0 (flat rfC rs)) (h1 : Sl w B 5 A1 n1 (flat upC log)) (h2 : Sl w B 5 A2 n2 (flat upC us)) (hB : B ≤ w.heap.size)
    (hnc : n0 ≤ c0) (hcm : c0 ≤ maxLen) (hnc1 : n1 ≤ c1) (hcm1 : c1 ≤ maxLen) (hn2 : n2 ≤ maxLen) (hs : ∀ u ∈ us, u.1.size ≤ maxLen) (hs2 : ∀ u ∈ log, u.1.size ≤ maxLen) :
    Calls Tryd.prog 6 #[.agg #[.slice A0 n0 c0, .slice A1 n1 c1], .slice A2 n2 c2] w fun e w' => e = .returned (.bool true) ∧ Below w.heap.size w w' := by
  have HL0 := Lib.hid (h0.len rfC_len (by omega)); have HL1 := Lib.hid (h1.len upC_len (by omega)); have HL2 := Lib.hid (h2.len upC_len (by omega))
  have H0 := Lib.hid h0; have H1 := Lib.hid h1; have H2 := Lib.hid h2; clear h0 h1 h2
  have HS := Lib.hid hs; have HS2 := Lib.hid hs2; clear hs hs2
  have HC := Lib.hid hcm; have HC1 := Lib.hid hcm1; have HN2 := Lib.hid hn2; clear hcm hcm1 hn2
  have HN1 := Lib.hid (Nat.le_trans hnc1 HC1.out); have HN0 := Lib.hid (Nat.le_trans hnc HC.out)
  obtain ⟨i0, hi, hz0, hz1', hz2'⟩ := info_parts info30
  have Hi := Lib.hid hi; have Hz0 := Lib.hid hz0; have Hz1 := Lib.hid hz1'; have Hz2 := Lib.hid hz2'
  clear hi hz0 hz1' hz2'
  go_enter Tryd.func6, Tryd.ntmps6
  go_wp2_with fail
  have hbel : Below w.heap.size w (w.alloc (.cells #[.slice A0 n0 c0, .slice A1 n1 c1] 25)) := (Below.refl _ w).alloc (Nat.le_refl _) _
  refine (great_any A0 A1 n0 c0 n1 c1 B rs log _ (H0.out.below hbel hB) (H1.out.below hbel hB) (by simp; omega) HN1.out).mono ?_
  rintro e w1 ⟨rfl, hb1⟩
  have k0 : Bk w1 w.heap.size 25 #[.slice A0 n0 c0, .slice A1 n1 c1] := (Bk.new w 25 _).below hb1 (by simp)
  have HB1 : Hid (Below w.heap.size w w1) := hbel.trans (hb1.mono (by simp))
  have hz1 : w.heap.size + 1 ≤ w1.heap.size := by have := hb1.size; simp at this; omega
  clear hb1 hbel
  have K0 := Lib.hid k0
  obtain ⟨x0, x1, _, _⟩ := k0.agg
  clear k0
  cases hg : greatB rs log with
  | true =>
    go_wp2_with fail
    refine (awake_any _).mono ?_
    rintro e wz ⟨rfl, hbz⟩
    have HBz := Lib.hid (HB1.out.trans (hbz.mono (by omega))); clear hbz
    go_wp2_with fail
    go_ret
    exact ⟨rfl, HBz.out⟩
  | false =>
    have hlens := great_small hg
    rw [HL0.out, HL1.out] at hlens
    obtain ⟨l0, l1⟩ := hlens
    clear hg
    go_wp2_with fail
    refine (many_any A2 n2 c2 B us _ (H2.out.below HB1.out hB) HN2.out).mono ?_
    rintro e w' ⟨rfl, rfl⟩
    cases hm : manyB us with
    | true =>
      go_wp2_with fail
      refine (awake_any _).mono ?_
      rintro e wz ⟨rfl, hbz⟩
      have HBz := Lib.hid (HB1.out.trans (hbz.mono (by omega))); clear hbz
      go_wp2_with fail
      go_ret
      exact ⟨rfl, HBz.out⟩
    | false =>
      have l2 := many_small hm
      rw [HL2.out] at l2
      clear hm
      go_wp2_with fail
      refine (apply_any A0 A1 A2 n0 c0 n1 c1 n2 c2 B rs log us _ (H0.out.below HB1.out hB) (H1.out.below HB1.out hB) (H2.out.below HB1.out hB) (by omega) HN0.out HN1.out (by omega) HS.out HS2.out).mono ?_
      have HER : Hid ((applyR rs log us).2.2 ≠ 0 → applyR rs log us = ([], [], (applyR rs log us).2.2)) := applyR_err
      have HLG : Hid ((applyR rs log us).2.2 = 0 → (applyR rs log us).2.1 = log ++ us ∧ checkE rs log = 0 ∧ checkE (applyR rs log us).1 (applyR rs log us).2.1 = 0) := fun h => apply_facts (by rw [HL1.out, HL2.out]; omega) h
      generalize hru : applyR rs log us = r at *
      clear hru
      obtain ⟨ra, rb, x⟩ := r
      rintro e w2 ⟨A3, n3, c3, A4, n4, c4, rfl, a1, a2, a3, a4, a5, a6, hb2⟩
      simp only at a1 a4 HER HLG ⊢
      have hz2 : w1.heap.size ≤ w2.heap.size := hb2.size
      have K02 := Lib.hid ((K0.out.below hb2 (by omega)).alloc (.cells #[.slice A3 n3 c3, .slice A4 n4 c4] 25)); have K52 := Lib.hid (Bk.new w2 25 #[.slice A3 n3 c3, .slice A4 n4 c4])
      have HB2 : Hid (Below w.heap.size w (w2.alloc (.cells #[.slice A3 n3 c3, .slice A4 n4 c4] 25))) := (HB1.out.trans (hb2.mono (by omega))).alloc (by omega) _
      have S3 := Lib.hid (a1.boxed (.cells #[.slice A3 n3 c3, .slice A4 n4 c4] 25)); have S4 := Lib.hid (a4.boxed (.cells #[.slice A3 n3 c3, .slice A4 n4 c4] 25)); have M3 := Lib.hid (Nat.le_trans a2 a3); have M4 := Lib.hid (Nat.le_trans a5 a6); have N4 := Lib.hid a5; have NC4 := Lib.hid a6
      clear hb2 a1 a2 a3 a4 a5 a6 x0 x1
      by_cases hx : x = 0
      · subst hx
        obtain ⟨e1, e2, e3⟩ := HLG.out rfl
        have HRB := Lib.hid e1; have HCE := Lib.hid e2; have HCX := Lib.hid e3
        clear e1 e2 e3 HER HLG
        have HL4 : Hid (n4 = n1 + n2) := by
          show _ = _
          have := S4.out.len upC_len (by omega)
          rw [HRB.out, List.length_append, HL1.out, HL2.out] at this; omega
        have HRS : Hid (∀ v ∈ rb, v.1.size ≤ maxLen) := by
          show ∀ v ∈ rb, v.1.size ≤ maxLen
          rw [HRB.out]; exact app_size HS2.out HS.out
        have V0 := Lib.hid (H0.out.below HB2.out hB); have V1 := Lib.hid (H1.out.below HB2.out hB); have V2 := Lib.hid (H2.out.below HB2.out hB)
        have x1 := K02.out.cell 1
        obtain ⟨y0, y1, _, _⟩ := K52.out.agg
        simp at x1
        go_wp2_with fail
        go_region_held3 (fun w' => w'.cell? ⟨w.heap.size, 1, none⟩ = some (.slice A1 n1 c1) ∧ w'.cell? ⟨w2.heap.size, 0, none⟩ = some (.slice A3 n3 c3) ∧ w'.cell? ⟨w2.heap.size, 1, none⟩ = some (.slice A4 n4 c4))
          (first | exact ⟨x1, y0, y1⟩ | exact S5.out | exact S7.out | exact S8.out | go_keep)
          (first
            | (refine step_append_emp (by rfl) (.tmp 37) (.tmp 39) 23 (by rfl) (w2.heap.size + 1) 30 i0 _ 5 48 Tryd.underlying23 Hi.out Hz0.out Hz1.out Hz2.out rfl (by decide) _ (by rfl) B A1 n1 c1 (flat upC log) (by rfl) (V1.out.alloc (by simp; omega) _) (oneCells_up _) (by unfold maxLen; omega) (by omega) (by simp) ?_
               intro A5 c5 w5 a5 hb5 hc5 hm5
               have Y5 : Hid (Below (w2.heap.size + 1) (w2.alloc (.cells #[.slice A3 n3 c3, .slice A4 n4 c4] 25)) w5) := (((Below.refl _ _).alloc (by simp) (.cells #[] 30)).drew).trans (hb5.mono (show w2.heap.size + 1 ≤ ((w2.alloc (.cells #[.slice A3 n3 c3, .slice A4 n4 c4] 25)).alloc (.cells #[] 30)).heap.size by simp))
               have Z5 : Hid (w2.heap.size + 1 ≤ w5.heap.size) := Nat.le_trans (show w2.heap.size + 1 ≤ ((w2.alloc (.cells #[.slice A3 n3 c3, .slice A4 n4 c4] 25)).alloc (.cells #[] 30)).heap.size by simp) hb5.size
               have S5 := held3 K02.out K52.out Y5.out (by omega) (by omega)
               have AP5 := Lib.hid a5
               clear hb5 a5 hc5 hm5)
            | (refine step_append_apd (by rfl) (.tmp 40) (.tmp 41) 23 (by rfl) (w2.heap.size + 1) 30 i0 _ 5 48 Tryd.underlying23 Hi.out Hz0.out Hz1.out Hz2.out rfl (by decide) A5 n1 c5 (flat upC log) (by rfl) AP5.out B A2 n2 c2 (flat upC us) (by rfl) (V2.out.below Y5.out (by omega)) (oneCells_up _) (by unfold maxLen; omega) (by omega) Z5.out ?_
               intro A7 c7 w7 a7 hb7 hc7 hm7
               have Y7 := Lib.hid (Y5.out.trans hb7)
               have Z7 : Hid (w2.heap.size + 1 ≤ w7.heap.size) := Nat.le_trans Z5.out hb7.size
               have S7 := held3 K02.out K52.out Y7.out (by omega) (by omega)
               rw [← flat_append] at a7
               have AP7 := Lib.hid a7
               clear hb7 a7 hc7 hm7)
            | (go_at_call 21; refine (sameUpds_any A4 A7 n4 c4 _ c7 w7.heap.size rb (log ++ us) _ ((S4.out.below Y7.out (by simp)).more (by simp; exact Z7.out)) AP7.out.sl M4.out).mono ?_; rintro e w8 ⟨rfl, j, rfl⟩; rw [decide_eq_true HRB.out])
            | (go_at_call 20; refine (check_any A3 A4 n3 c3 n4 c4 (w2.heap.size + 1) ra rb _ (((S3.out.below Y7.out (by simp)).drewN j).more (by simp)) (((S4.out.below Y7.out (by simp)).drewN j).more (by simp)) (by show _ ≤ w7.heap.size; exact Z7.out) M3.out M4.out HRS.out).mono ?_; rintro e w9 ⟨rfl, hb9⟩; rw [HCX.out]
               have Y9 := Lib.hid ((below_drewN' Y7.out j).trans (hb9.mono (by show _ ≤ w7.heap.size; exact Z7.out)))
               have Z9 : Hid (w2.heap.size + 1 ≤ w9.heap.size) := Nat.le_trans Z7.out hb9.size
               have S8 := held3 K02.out K52.out Y9.out (by omega) (by omega)
               clear hb9))
        have K09 := Lib.hid (K02.out.below Y9.out (by omega)); have K59 := Lib.hid (K52.out.below Y9.out (by omega))
        have HB9 := Lib.hid (HB2.out.trans (Y9.out.mono (by omega)))
        have hz9 : w2.heap.size + 1 ≤ w9.heap.size := Z9.out
        have U3 := Lib.hid ((S3.out.below Y9.out (by simp)).more (show (w2.alloc (.cells #[.slice A3 n3 c3, .slice A4 n4 c4] 25)).heap.size ≤ w9.heap.size by simp; omega)); have U4 := Lib.hid ((S4.out.below Y9.out (by simp)).more (show (w2.alloc (.cells #[.slice A3 n3 c3, .slice A4 n4 c4] 25)).heap.size ≤ w9.heap.size by simp; omega))
        clear Y5 Y7 Y9 Z5 Z7 Z9 S3 S4 S5 S7 S8 AP5 AP7 x1 y0 y1 K02 K52 V0 V1 V2
        have x1 := K09.out.cell 1
        simp at x1
        go_wp2
        go_loopw [54] (fun i wr => ∃ k : Nat, k ≤ n1 + 1 ∧ i = .int .i64 k ∧ Hid (Bk wr w.heap.size 25 #[.slice A0 n0 c0, .slice A1 n1 c1]) ∧ Hid (Bk wr w2.heap.size 25 #[.slice A3 n3 c3, .slice A4 n4 c4]) ∧ Hid (Below w.heap.size w wr) ∧
          Hid (Sl wr wr.heap.size 3 A3 n3 (flat rfC ra)) ∧ Hid (Sl wr wr.heap.size 5 A4 n4 (flat upC rb)) ∧ w2.heap.size + 1 ≤ wr.heap.size) (fun i _ => n1 + 1 - (intOf i).toNat)
        case atStart => exact ⟨0, Nat.zero_le _, rfl, K09.out, K59.out, HB9.out, U3.out, U4.out, hz9⟩
        case round =>
          obtain ⟨k, hk, rfl, J0, J5, hBel, G3, G4, hwz⟩ := hrel
          by_cases hlt : k < n1 + 1
          · have hlz : (k : Int) < (n1 : Int) + 1 := by omega
            obtain ⟨y0, y1, _, _⟩ := J0.out.agg
            go_wp2_with fail
            refine (goAt_any A0 A1 n0 c0 n1 c1 B rs log (k : Int) _ (H0.out.below hBel.out hB) (H1.out.below hBel.out hB) (by omega) HN0.out hnc1 HC1.out HS2.out).mono ?_
            rw [atR_ok HCE.out (by rw [HL1.out]; omega)]
            obtain ⟨l, hl⟩ : ∃ l, (runU [] (log.take k)).1 = l := ⟨_, rfl⟩
            rw [hl]
            have HT : Hid ((runU [] (rb.take k)).1 = l) := by
              show _ = _
              rw [HRB.out, List.take_append_of_le_length (by rw [HL1.out]; omega)]; exact hl
            clear hl
            rintro e w10 ⟨A5, n5, c5, rfl, a1, a2, a3, hb10⟩
            simp only at a1 ⊢
            have hz10 := hb10.size
            have J010 := Lib.hid (J0.out.below hb10 (by omega)); have J510 := Lib.hid (J5.out.below hb10 (by omega)); have HB10 := Lib.hid (hBel.out.trans (hb10.mono (by omega)))
            have G310 := Lib.hid (G3.out.on hb10); have G410 := Lib.hid (G4.out.on hb10); have P5 := Lib.hid a1; have M5 := Lib.hid (Nat.le_trans a2 a3)
            clear hb10 a1 a2 a3 y0 y1
            obtain ⟨y0, y1, _, _⟩ := J510.out.agg
            go_wp2_with fail
            refine (goAt_any A3 A4 n3 c3 n4 c4 w10.heap.size ra rb (k : Int) _ G310.out G410.out (Nat.le_refl _) M3.out N4.out NC4.out HRS.out).mono ?_
            rw [atR_ok HCX.out (by rw [HRB.out, List.length_append, HL1.out]; omega), HT.out]
            rintro e w11 ⟨A6, n6, c6, rfl, a1, a2, a3, hb11⟩
            simp only at a1 ⊢
            have hz11 := hb11.size
            have J011 := Lib.hid (J010.out.below hb11 (by omega)); have J511 := Lib.hid (J510.out.below hb11 (by omega)); have HB11 := Lib.hid (HB10.out.trans (hb11.mono (by omega)))
            have G311 := Lib.hid (G310.out.on hb11); have G411 := Lib.hid (G410.out.on hb11); have P511 := Lib.hid (P5.out.on hb11); have P6 := Lib.hid a1
            clear hb11 a1 a2 a3 y0 y1
            go_wp2_with fail
            refine (sameRefs_any A5 A6 n5 c5 n6 c6 _ l l _ P511.out P6.out M5.out).mono ?_
            rintro e w12 ⟨rfl, j, rfl⟩
            rw [show decide (l = l) = true by simp]
            go_wp2
            go_roundw
            case rel => exact ⟨k + 1, by omega, by go_num, J011.out.drewN j, J511.out.drewN j, below_drewN' HB11.out j, G311.out.drewN j, G411.out.drewN j, by show _ ≤ w11.heap.size; omega⟩
            case measure => simp [intOf]; omega
          · have hlz : ¬ (k : Int) < (n1 : Int) + 1 := by omega
            obtain ⟨y0, y1, _, _⟩ := J5.out.agg
            go_wp2_with fail
            refine (goAt_any A3 A4 n3 c3 n4 c4 wr.heap.size ra rb (n4 : Int) _ G3.out G4.out (Nat.le_refl _) M3.out N4.out NC4.out HRS.out).mono ?_
            rw [show atR ra rb (n4 : Int) = (ra, 0) by rw [show n4 = rb.length from (G4.out.len upC_len (by omega)).symm]; exact atR_end HCX.out]
            rintro e w10 ⟨A6, n6, c6, rfl, a1, a2, a3, hb10⟩
            simp only at a1 ⊢
            have hz10 := hb10.size
            have J510 := Lib.hid (J5.out.below hb10 (by omega)); have HB10 := Lib.hid (hBel.out.trans (hb10.mono (by omega)))
            have G310 := Lib.hid (G3.out.on hb10); have P6 := Lib.hid a1; have M6 := Lib.hid (Nat.le_trans a2 a3)
            clear hb10 a1 a2 a3 y0 y1
            obtain ⟨y0, y1, _, _⟩ := J510.out.agg
            go_wp2_with fail
            refine (sameRefs_any A6 A3 n6 c6 n3 c3 _ ra ra _ P6.out G310.out M6.out).mono ?_
            rintro e w12 ⟨rfl, j, rfl⟩
            rw [show decide (ra = ra) = true by simp]
            have HB12 := Lib.hid (below_drewN' HB10.out j)
            go_wp2_with fail
            refine (awake_any _).mono ?_
            rintro e wz ⟨rfl, hbz⟩
            have HBz := Lib.hid (HB12.out.trans (hbz.mono (by show _ ≤ w10.heap.size; omega))); clear hbz
            go_wp2_with fail
            go_ret
            exact ⟨rfl, HBz.out⟩
      · have hne : (x != 0) = true := by rw [bne_iff_ne]; exact hx
        have hfin := HER.out hx
        simp only [Prod.mk.injEq, and_true] at hfin
        obtain ⟨rfl, rfl⟩ := hfin
        clear hx HER HLG
        obtain ⟨y0, y1, _, _⟩ := K52.out.agg
        go_wp2_with fail
        refine (same_any A3 A4 none none n3 c3 n4 c4 0 0 0 0 _ [] [] [] [] _ S3.out S4.out (Sl.nil _ _ _ _) (Sl.nil _ _ _ _) (Nat.le_refl _) M3.out M4.out).mono ?_
        rintro e w6 ⟨rfl, hb6⟩
        rw [show (decide (([] : List Rf) = []) && decide (([] : List Upd) = [])) = true by simp]
        have HB6 := Lib.hid (HB2.out.trans (hb6.mono (by simp; omega)))
        have hz6 : w2.heap.size + 1 ≤ w6.heap.size := by have := hb6.size; simp at this; omega
        clear hb6 y0 y1
        go_wp2_with fail
        refine (awake_any _).mono ?_
        rintro e wz ⟨rfl, hbz⟩
        have HBz := Lib.hid (HB6.out.trans (hbz.mono (by omega))); clear hbz
        go_wp2_with fail
        go_ret
        exact ⟨rfl, HBz.out⟩
end Go.Proofs.YtikmiabncbhioaaDoor
