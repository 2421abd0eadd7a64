/-
  RefsUndo.
-/
import Derived.Test.YtikmiabncbhioaaDoorL3
import Derived.Test.YtikmiabncbhioaaDoorLaw
namespace Go.Proofs.YtikmiabncbhioaaDoor
open Go.RowKit Go.Maps

theorem back_get {us : List Upd} {k : Nat} {u : Upd} (h : us[us.length - 1 - k]? = some u) (hk : k < us.length) : (backU us)[k]? = some (swapU u) := by
  unfold backU
  rw [List.getElem?_reverse (by simpa using hk)]
  simp [h]
theorem back_size {us : List Upd} (h : ∀ u ∈ us, u.1.size ≤ maxLen) : ∀ u ∈ backU us, u.1.size ≤ maxLen := by
  intro u hu
  unfold backU at hu
  rw [List.mem_reverse, List.mem_map] at hu
  obtain ⟨v, hv, rfl⟩ := hu
  exact h v hv
theorem app_size {us vs : List Upd} (h : ∀ u ∈ us, u.1.size ≤ maxLen) (h' : ∀ u ∈ vs, u.1.size ≤ maxLen) : ∀ u ∈ us ++ vs, u.1.size ≤ maxLen := by
  intro u hu
  rcases List.mem_append.1 hu with hu | hu
  · exact h u hu
  · exact h' u hu

set_option maxRecDepth 100000 in
set_option maxHeartbeats 4000000 in
theorem law4_any (A0 A1 A2 : Option Addr) (n0 c0 n1 c1 n2 c2 B : Nat) (rs : List Rf) (log us : List Upd) (w : World) (h0 : Sl w B 3 A0 n0 (flat rfC rs)) (h1 : Sl w B 5 A1 n1 (flat upC log)) (h2 : Sl w B 5 A2 n2 (flat upC us)) (hB : B ≤ w.heap.size)
    (hnc : n0 ≤ c0) (hcm : c0 ≤ maxLen) (hnc1 : n1 ≤ c1) (hcm1 : c1 ≤ maxLen) (hn2 : n2 ≤ maxLen) (hs : ∀ u ∈ us, u.1.size ≤ maxLen) (hs2 : ∀ u ∈ log, u.1.size ≤ maxLen) :
    Calls Tryd.prog 4 #[.agg #[.slice A0 n0 c0, .slice A1 n1 c1], .slice A2 n2 c2] w fun e w' => e = .returned (.bool true) ∧ Below w.heap.size w w' := by
  have HL0 := Lib.hid (h0.len rfC_len (by omega)); have HL1 := Lib.hid (h1.len upC_len (by omega)); have HL2 := Lib.hid (h2.len upC_len (by omega))
  have H0 := Lib.hid h0; have H1 := Lib.hid h1; have H2 := Lib.hid h2; clear h0 h1 h2
  have HS := Lib.hid hs; have HS2 := Lib.hid hs2; clear hs hs2
  have HC := Lib.hid hcm; have HC1 := Lib.hid hcm1; have HN2 := Lib.hid hn2; clear hcm hcm1 hn2
  have HN1 := Lib.hid (Nat.le_trans hnc1 HC1.out); have HN0 := Lib.hid (Nat.le_trans hnc HC.out)
  obtain ⟨i0, hi, hz0, hz1', hz2'⟩ := info_parts info30
  have Hi := Lib.hid hi; have Hz0 := Lib.hid hz0; have Hz1 := Lib.hid hz1'; have Hz2 := Lib.hid hz2'
  clear hi hz0 hz1' hz2'
  go_enter Tryd.func4, Tryd.ntmps4
  go_wp2_with fail
  have hbel : Below w.heap.size w (w.alloc (.cells #[.slice A0 n0 c0, .slice A1 n1 c1] 25)) := (Below.refl _ w).alloc (Nat.le_refl _) _
  refine (great_any A0 A1 n0 c0 n1 c1 B rs log _ (H0.out.below hbel hB) (H1.out.below hbel hB) (by simp; omega) HN1.out).mono ?_
  rintro e w1 ⟨rfl, hb1⟩
  have k0 : Bk w1 w.heap.size 25 #[.slice A0 n0 c0, .slice A1 n1 c1] := (Bk.new w 25 _).below hb1 (by simp)
  have HB1 : Hid (Below w.heap.size w w1) := hbel.trans (hb1.mono (by simp))
  have hz1 : w.heap.size + 1 ≤ w1.heap.size := by have := hb1.size; simp at this; omega
  clear hb1 hbel
  have K0 := Lib.hid k0
  obtain ⟨x0, x1, _, _⟩ := k0.agg
  clear k0
  cases hg : greatB rs log with
  | true =>
    go_wp2_with fail
    refine (awake_any _).mono ?_
    rintro e w2 ⟨rfl, hb2⟩
    have HB2 := Lib.hid (HB1.out.trans (hb2.mono (by omega))); clear hb2
    go_wp2_with fail
    go_ret
    exact ⟨rfl, HB2.out⟩
  | false =>
    have hlens := great_small hg
    rw [HL0.out, HL1.out] at hlens
    obtain ⟨l0, l1⟩ := hlens
    clear hg
    go_wp2_with fail
    refine (many_any A2 n2 c2 B us _ (H2.out.below HB1.out hB) HN2.out).mono ?_
    rintro e w' ⟨rfl, rfl⟩
    cases hm : manyB us with
    | true =>
      go_wp2_with fail
      refine (awake_any _).mono ?_
      rintro e w2 ⟨rfl, hb2⟩
      have HB2 := Lib.hid (HB1.out.trans (hb2.mono (by omega))); clear hb2
      go_wp2_with fail
      go_ret
      exact ⟨rfl, HB2.out⟩
    | false =>
      have l2 := many_small hm
      rw [HL2.out] at l2
      clear hm
      go_wp2_with fail
      refine (apply_any A0 A1 A2 n0 c0 n1 c1 n2 c2 B rs log us _ (H0.out.below HB1.out hB) (H1.out.below HB1.out hB) (H2.out.below HB1.out hB) (by omega) HN0.out HN1.out (by omega) HS.out HS2.out).mono ?_
      have HUN : Hid ((applyR rs log us).2.2 = 0 → applyR (applyR rs log us).1 (applyR rs log us).2.1 (backU us) = (rs, log ++ us ++ backU us, 0)) := undo_all (by rw [HL1.out]; omega) (by rw [HL2.out]; omega)
      have HLG : Hid ((applyR rs log us).2.2 = 0 → (applyR rs log us).2.1 = log ++ us) := fun h => by rw [(apply_ok (by rw [HL1.out, HL2.out]; omega) h).2.1]
      generalize hru : applyR rs log us = r at *
      clear hru
      obtain ⟨ra, rb, x⟩ := r
      rintro e w2 ⟨A3, n3, c3, A4, n4, c4, rfl, a1, a2, a3, a4, a5, a6, hb2⟩
      simp only at a1 a4 HUN HLG ⊢
      have hz2 : w1.heap.size ≤ w2.heap.size := hb2.size
      have K02 := Lib.hid ((K0.out.below hb2 (by omega)).alloc (.cells #[.slice A3 n3 c3, .slice A4 n4 c4] 25)); have K22 := Lib.hid (Bk.new w2 25 #[.slice A3 n3 c3, .slice A4 n4 c4])
      have HB2 : Hid (Below w.heap.size w (w2.alloc (.cells #[.slice A3 n3 c3, .slice A4 n4 c4] 25))) := (HB1.out.trans (hb2.mono (by omega))).alloc (by omega) _
      have S3 := Lib.hid (a1.boxed (.cells #[.slice A3 n3 c3, .slice A4 n4 c4] 25)); have S4 := Lib.hid (a4.boxed (.cells #[.slice A3 n3 c3, .slice A4 n4 c4] 25)); have M3 := Lib.hid (Nat.le_trans a2 a3); have M4 := Lib.hid (Nat.le_trans a5 a6)
      clear hb2 a1 a2 a3 a4 a5 a6 x0 x1
      by_cases hx : x = 0
      · subst hx
        have HUR := Lib.hid (HUN.out rfl); have HLE := Lib.hid (HLG.out rfl)
        clear HUN HLG
        go_wp2
        go_loopw [7, 31] (fun v i wr => ∃ (k : Nat) (A : Option Addr) (c : Nat), k ≤ n2 ∧ i = .int .i64 k ∧ v = .slice A k c ∧ Hid (Below (w2.heap.size + 1) (w2.alloc (.cells #[.slice A3 n3 c3, .slice A4 n4 c4] 25)) wr) ∧
          Hid (Apd wr (w2.heap.size + 1) 30 5 A k c (flat upC ((backU us).take k))) ∧ w2.heap.size + 1 ≤ wr.heap.size) (fun _ i _ => n2 - (intOf i).toNat)
        case atStart => exact ⟨0, _, _, Nat.zero_le _, rfl, rfl, (Below.refl _ _).alloc (by simp) _, .inr ⟨rfl, rfl, rfl⟩, by simp⟩
        case round =>
          obtain ⟨k, A, c, hk, rfl, rfl, hBel, AP, hwz⟩ := hrel
          by_cases hlt : k < n2
          · have hBW : Below w.heap.size w wr := HB2.out.trans (hBel.out.mono (by omega))
            obtain ⟨b, off, u, rfl, hbB, hu, y0, y1, y2, y3, y4⟩ := (H2.out.below hBW hB).upd (k := n2 - 1 - k) (by omega)
            have HBK : Hid ((backU us)[k]? = some (swapU u)) := back_get (by rw [HL2.out]; exact hu) (by rw [HL2.out]; exact hlt)
            have HBW := Lib.hid hBW
            clear hu hBW
            obtain ⟨s, ⟨o0, o1⟩, ⟨q0, q1⟩⟩ := u
            have hlz : (k : Int) < (n2 : Int) := by omega
            have hix : (n2 : Int) - 1 - (k : Int) = ((n2 - 1 - k : Nat) : Int) := by omega
            go_wp2_with (at_builtin; refine halt_ ?_)
            refine unhalt ?_
            refine wpList_append_apd (base := w2.heap.size + 1) _ rfl (.tmp 42) (.tmp 50) 23 rfl 30 i0 _ 48 Tryd.underlying23 Hi.out Hz0.out Hz1.out Hz2.out rfl (by decide) A k c (flat upC ((backU us).take k)) rfl ?ap (wr.heap.size + 1 + 1) _ 1 _ (flat upC [swapU (s, (o0, o1), (q0, q1))]) rfl ?sl (oneCells_up _) (by unfold maxLen; omega) (by omega) (by simp; omega) ?_
            case ap => exact (AP.out.below ((Below.refl _ _).alloc (Nat.le_refl _) _)).below ((Below.refl _ _).alloc (Nat.le_refl _) _)
            case sl =>
              have := Sl.new (wr.alloc (.cells #[.string s, .int .u64 o0, .int .u64 o1, .int .u64 q0, .int .u64 q1] 30)) 30 (flat upC [swapU (s, (o0, o1), (q0, q1))]) 1 (size := 5) rfl
              simp only [World.size_alloc] at this
              exact this
            intro A5 c5 w5 a5 hb5 hc5 hm5 hok5
            have hz5 : wr.heap.size ≤ w5.heap.size := by have := hb5.size; simp at this; omega
            rw [← flat_append, ← take_snoc HBK.out] at a5
            have HA5 := Lib.hid a5
            have HB5 := Lib.hid (((hBel.out.alloc hwz (.cells #[.string s, .int .u64 o0, .int .u64 o1, .int .u64 q0, .int .u64 q1] 30)).alloc (by simp; omega) _).trans hb5)
            clear a5 hb5 hm5 hok5 y0 y1 y2 y3 y4
            go_wp2
            go_roundw
            case rel => exact ⟨k + 1, A5, c5, by omega, by go_num, rfl, HB5.out, HA5.out, by omega⟩
            case measure => simp [intOf]; omega
          · have hke : k = n2 := by omega
            have O2 := AP.out
            rw [List.take_of_length_le (by rw [show (backU us).length = us.length by simp [backU], HL2.out]; omega)] at O2
            have SB := Lib.hid O2.sl
            have K0r := Lib.hid (K02.out.below hBel.out (by omega)); have K2r := Lib.hid (K22.out.below hBel.out (by omega))
            have T3 := Lib.hid ((S3.out.below hBel.out (by simp)).more (show (w2.alloc (.cells #[.slice A3 n3 c3, .slice A4 n4 c4] 25)).heap.size ≤ wr.heap.size by simp; omega)); have T4 := Lib.hid ((S4.out.below hBel.out (by simp)).more (show (w2.alloc (.cells #[.slice A3 n3 c3, .slice A4 n4 c4] 25)).heap.size ≤ wr.heap.size by simp; omega))
            have HBr := Lib.hid (HB2.out.trans (hBel.out.mono (by omega)))
            clear O2 AP
            subst hke
            obtain ⟨x0, x1, _, _⟩ := K0r.out.agg
            obtain ⟨p0, p1, _, _⟩ := K2r.out.agg
            go_wp2_with fail
            refine (apply_any A3 A4 A n3 c3 n4 c4 _ c wr.heap.size ra rb (backU us) _ T3.out T4.out SB.out (Nat.le_refl _) M3.out M4.out (by omega) (back_size HS.out) (by rw [HLE.out]; exact app_size HS2.out HS.out)).mono ?_
            rw [HUR.out]
            rintro e w3 ⟨A5, n5, c5, A6, n6, c6, rfl, a1, a2, a3, a4, a5, a6, hb3⟩
            simp only at a1 ⊢
            have hz3 : wr.heap.size ≤ w3.heap.size := hb3.size
            have K03 := Lib.hid ((K0r.out.below hb3 (by omega)).alloc (.cells #[.slice A5 n5 c5, .slice A6 n6 c6] 25)); have K33 := Lib.hid (Bk.new w3 25 #[.slice A5 n5 c5, .slice A6 n6 c6])
            have HB3 : Hid (Below w.heap.size w (w3.alloc (.cells #[.slice A5 n5 c5, .slice A6 n6 c6] 25))) := (HBr.out.trans (hb3.mono (by omega))).alloc (by omega) _
            have S5 := Lib.hid (a1.boxed (.cells #[.slice A5 n5 c5, .slice A6 n6 c6] 25)); have M5 := Lib.hid (Nat.le_trans a2 a3)
            have G0 := Lib.hid ((H0.out.below HB3.out hB).more (show B ≤ (w3.alloc (.cells #[.slice A5 n5 c5, .slice A6 n6 c6] 25)).heap.size by simp; omega))
            clear hb3 a1 a2 a3 a4 a5 a6 x0 x1 p0 p1
            obtain ⟨x0, x1, _, _⟩ := K03.out.agg
            obtain ⟨p0, p1, _, _⟩ := K33.out.agg
            go_wp2_with fail
            refine (sameRefs_any A5 A0 n5 c5 n0 c0 _ rs rs _ S5.out G0.out M5.out).mono ?_
            rintro e w4 ⟨rfl, j, rfl⟩
            rw [show decide (rs = rs) = true by simp]
            have HB4 := Lib.hid (below_drewN' HB3.out j)
            go_wp2_with fail
            refine (awake_any _).mono ?_
            rintro e w5 ⟨rfl, hb5⟩
            have HB5 := Lib.hid (HB4.out.trans (hb5.mono (by simp; omega))); clear hb5
            go_wp2_with fail
            go_ret
            exact ⟨rfl, HB5.out⟩
      · have hne : (x != 0) = true := by rw [bne_iff_ne]; exact hx
        clear hx
        go_wp2_with fail
        refine (awake_any _).mono ?_
        rintro e w3 ⟨rfl, hb3⟩
        have HB3 := Lib.hid (HB2.out.trans (hb3.mono (by simp; omega))); clear hb3
        go_wp2_with fail
        go_ret
        exact ⟨rfl, HB3.out⟩
end Go.Proofs.YtikmiabncbhioaaDoor
