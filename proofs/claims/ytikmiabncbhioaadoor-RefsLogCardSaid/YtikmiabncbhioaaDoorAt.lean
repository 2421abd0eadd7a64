/-
  At, by the program and by the reference.
-/
import Derived.Test.YtikmiabncbhioaaDoorGGet
namespace Go.Proofs.YtikmiabncbhioaaDoor
open Go.RowKit Go.Maps

/-- what At answers -/
def atR (rs : List Rf) (log : List Upd) (n : Int) : List Rf × Int :=
  if checkE rs log ≠ 0 then ([], checkE rs log) else if n < 0 ∨ (log.length : Int) < n then ([], 2) else runU [] (log.take n.toNat)
theorem take_ok {rs : List Rf} {log : List Upd} (h : checkE rs log = 0) (k : Nat) : (runU [] (log.take k)).2 = 0 := by
  have h1 := (check_iff (check_len h)).1 h
  rw [← List.take_append_drop k log, runU_app] at h1
  by_cases h2 : (runU [] (log.take k)).2 ≠ 0
  · rw [if_pos h2] at h1; rw [h1]
  · simpa using h2
theorem take_size {log : List Upd} (h : ∀ u ∈ log, u.1.size ≤ maxLen) (k : Nat) : ∀ u ∈ log.take k, u.1.size ≤ maxLen := fun u hu => h u (List.mem_of_mem_take hu)

set_option maxRecDepth 100000 in
set_option maxHeartbeats 1000000 in
theorem goAt_any (A0 A1 : Option Addr) (n0 c0 n1 c1 B : Nat) (rs : List Rf) (log : List Upd) (n : Int) (w : World) (h0 : Sl w B 3 A0 n0 (flat rfC rs)) (h1 : Sl w B 5 A1 n1 (flat upC log)) (hB : B ≤ w.heap.size)
    (hn0 : n0 ≤ maxLen) (hnc1 : n1 ≤ c1) (hcm1 : c1 ≤ maxLen) (hs2 : ∀ u ∈ log, u.1.size ≤ maxLen) :
    Calls Tryd.prog 22 #[.agg #[.slice A0 n0 c0, .slice A1 n1 c1], .int .i64 n] w (RetRefsE (atR rs log n).1 (atR rs log n).2 w) := by
  have HL1 := Lib.hid (h1.len upC_len (by omega))
  have H0 := Lib.hid h0; have H1 := Lib.hid h1; clear h0 h1
  have HS2 := Lib.hid hs2; have HN0 := Lib.hid hn0; have HN1 := Lib.hid (Nat.le_trans hnc1 hcm1); clear hs2 hn0 hcm1
  obtain ⟨i0, hi, _, _, _⟩ := info_parts info30
  have Hi := Lib.hid hi; clear hi
  have HR : Hid (∀ r, atR rs log n = r → ∀ e w', RetRefsE r.1 r.2 w e w' → RetRefsE (atR rs log n).1 (atR rs log n).2 w e w') := fun r h e w' hh => by rw [h]; exact hh
  have HG : Hid (atR rs log n = if checkE rs log ≠ 0 then ([], checkE rs log) else if n < 0 ∨ (log.length : Int) < n then ([], 2) else runU [] (log.take n.toNat)) := rfl
  have HB := Lib.hid ((Below.refl w.heap.size w).alloc (Nat.le_refl _) (.cells #[.slice A0 n0 c0, .slice A1 n1 c1] 25))
  go_enter Tryd.func22, Tryd.ntmps22
  go_wp2_with fail
  refine (check_any A0 A1 n0 c0 n1 c1 B rs log _ (H0.out.below HB.out hB) (H1.out.below HB.out hB) (by simp; omega) HN0.out HN1.out HS2.out).mono ?_
  rintro e w1 ⟨rfl, hb1⟩
  have k0 : Bk w1 w.heap.size 25 #[.slice A0 n0 c0, .slice A1 n1 c1] := (Bk.new w 25 _).below hb1 (by simp)
  have HB1 : Hid (Below w.heap.size w w1) := HB.out.trans (hb1.mono (by simp))
  have hz1 : w.heap.size + 1 ≤ w1.heap.size := by have := hb1.size; simp at this; omega
  obtain ⟨x0, x1, _, _⟩ := k0.agg
  clear hb1 k0
  by_cases hc : checkE rs log = 0
  · have HCE := Lib.hid hc
    have hlen := check_len hc
    rw [HL1.out] at hlen
    rw [HCE.out]
    clear hc
    by_cases hneg : n < 0
    · have hst : Hid (atR rs log n = ([], 2)) := by show _ = _; rw [HG.out, HCE.out, if_neg (by simp), if_pos (.inl hneg)]
      go_wp2_with fail
      go_ret2
      exact HR.out _ hst.out _ _ ⟨none, 0, 0, rfl, Sl.nil _ _ _ _, Nat.le_refl _, Nat.zero_le _, HB1.out⟩
    · by_cases hbig : (n1 : Int) < n
      · have hst : Hid (atR rs log n = ([], 2)) := by show _ = _; rw [HG.out, HCE.out, if_neg (by simp), if_pos (.inr (by rw [HL1.out]; exact hbig))]
        go_wp2_with fail
        go_ret2
        exact HR.out _ hst.out _ _ ⟨none, 0, 0, rfl, Sl.nil _ _ _ _, Nat.le_refl _, Nat.zero_le _, HB1.out⟩
      · obtain ⟨k, rfl⟩ : ∃ k : Nat, n = (k : Int) := ⟨n.toNat, by omega⟩
        have hst : Hid (atR rs log (k : Int) = runU [] (log.take k)) := by
          show _ = _
          rw [HG.out, HCE.out, if_neg (by simp), if_neg (by rw [HL1.out]; omega)]; rfl
        have hk : k ≤ n1 := by omega
        have hsl := run_slice_to (P := Tryd.prog) 23 i0 Tryd.underlying23 Hi.out A1 n1 c1 k (by omega)
        have HT := Lib.hid (take_ok HCE.out k); have HSR := Lib.hid (runU_srt (log.take k) [] List.Pairwise.nil)
        have HTS := Lib.hid (take_size HS2.out k)
        clear hneg hbig
        go_wp2_with fail
        refine (replay_any A1 k c1 B (log.take k) _ ((H1.out.below HB1.out hB).take_ upC_len (by omega) hk) (by omega) (by omega) HTS.out).mono ?_
        generalize hr : runU [] (log.take k) = r at *
        obtain ⟨l, x⟩ := r
        have hx : x = 0 := HT.out
        subst hx
        rintro e w2 ⟨mb, rfl, hb2, hm⟩
        obtain ⟨b, rfl, hbge, hown⟩ := hm rfl
        simp only at hown ⊢
        have hz2 := hb2.size
        have HO := Lib.hid hown; have HB2 := Lib.hid (HB1.out.trans (hb2.mono (by omega)))
        have HSR2 : Hid (Srt l) := HSR.out
        clear hown hb2 hm HT HSR hr x0 x1
        go_wp2_with fail
        refine (list_any b k l _ HO.out HSR2.out (by omega)).mono ?_
        rintro e w3 ⟨A6, m6, c6, rfl, s6, hm6, hc6, hb6, _⟩
        have S6 := Lib.hid s6; have HB3 := Lib.hid (HB2.out.trans (hb6.mono (by omega))); have HC6 := Lib.hid hc6
        clear s6 hb6 hc6
        go_wp2_with fail
        go_ret2
        exact HR.out _ hst.out _ _ ⟨A6, m6, c6, rfl, S6.out, hm6, HC6.out, HB3.out⟩
  · have hne : (checkE rs log != 0) = true := by rw [bne_iff_ne]; exact hc
    have hst : Hid (atR rs log n = ([], checkE rs log)) := by show _ = _; rw [HG.out, if_pos hc]
    clear hc
    go_wp2_with fail
    go_ret2
    exact HR.out _ hst.out _ _ ⟨none, 0, 0, rfl, Sl.nil _ _ _ _, Nat.le_refl _, Nat.zero_le _, HB1.out⟩
end Go.Proofs.YtikmiabncbhioaaDoor
