/-
  refs.open: the map of valid refs, or an error.
-/
import Derived.Test.YtikmiabncbhioaaDoorGLst
import Derived.Test.YtikmiabncbhioaaDoorRChk
namespace Go.Proofs.YtikmiabncbhioaaDoor
open Go.RowKit Go.Maps

/-- the map of valid refs, or an error -/
def RetO (rs : List Rf) (x : Int) (w : World) (e : Ending) (w' : World) : Prop :=
  ∃ mb : Option Nat, e = .returned (.tuple #[.map mb, .int .i64 x]) ∧ Below w.heap.size w w' ∧ (x = 0 → ∃ b, mb = some b ∧ w.heap.size ≤ b ∧ w'.ownsMap Tryd.prog 9 digR b 1000 (mapD rs))

theorem check_srt {rs : List Rf} {log : List Upd} (h : checkE rs log = 0) : Srt rs := by
  unfold checkE at h
  by_cases h1 : 1000 < log.length
  · rw [if_pos h1] at h; cases h
  · rw [if_neg h1] at h
    by_cases h2 : (runU [] log).2 ≠ 0
    · rw [if_pos h2] at h; exact absurd h h2
    · rw [if_neg h2] at h
      by_cases h3 : (runU [] log).1 = rs
      · rw [← h3]; exact runU_srt log [] List.Pairwise.nil
      · rw [if_neg h3] at h; cases h

set_option maxRecDepth 100000 in
set_option maxHeartbeats 2000000 in
theorem open_any (A0 A1 : Option Addr) (n0 c0 n1 c1 B : Nat) (rs : List Rf) (log : List Upd) (w : World) (h0 : Sl w B 3 A0 n0 (flat rfC rs)) (h1 : Sl w B 5 A1 n1 (flat upC log)) (hB : B ≤ w.heap.size)
    (hn0 : n0 ≤ maxLen) (hn1 : n1 ≤ maxLen) (hs : ∀ u ∈ log, u.1.size ≤ maxLen) :
    Calls Tryd.prog 32 #[.agg #[.slice A0 n0 c0, .slice A1 n1 c1]] w (RetO rs (checkE rs log) w) := by
  have HL1 := Lib.hid (h1.len upC_len (by omega))
  have H0 := Lib.hid (h0.alloc hB (.cells #[.slice A0 n0 c0, .slice A1 n1 c1] 25)); have H1 := Lib.hid (h1.alloc hB (.cells #[.slice A0 n0 c0, .slice A1 n1 c1] 25)); clear h0 h1
  have HS := Lib.hid hs; clear hs
  have HN0 := Lib.hid hn0; clear hn0
  have HB := Lib.hid ((Below.refl w.heap.size w).alloc (Nat.le_refl _) (.cells #[.slice A0 n0 c0, .slice A1 n1 c1] 25))
  have hC : Hid (checkE rs log = if 1000 < log.length then 4 else if (runU [] log).2 ≠ 0 then (runU [] log).2 else if (runU [] log).1 = rs then 0 else 11) := rfl
  generalize checkE rs log = ce at *
  have HR : Hid (∀ r, ce = r → ∀ e w', RetO rs r w e w' → RetO rs ce w e w') := fun r h e w' hh => by rw [h]; exact hh
  unfold maxLen at hn1
  by_cases hbig : 1000 < n1
  · have hfin : Hid (ce = 4) := by show _ = _; rw [hC.out, if_pos (by rw [HL1.out]; exact hbig)]
    go_enter Tryd.func32, Tryd.ntmps32
    go_wp2_with fail
    go_ret2
    exact HR.out _ hfin.out _ _ ⟨none, rfl, HB.out, fun h => by cases h⟩
  · have hC2 : Hid (ce = if (runU [] log).2 ≠ 0 then (runU [] log).2 else if (runU [] log).1 = rs then 0 else 11) := by
      show _ = _
      rw [hC.out, if_neg (by rw [HL1.out]; exact hbig)]
    have HSR := Lib.hid (runU_srt log [] List.Pairwise.nil)
    generalize hr : runU [] log = r at *
    obtain ⟨l, x⟩ := r
    have HRU := Lib.hid hr; clear hr
    go_enter Tryd.func32, Tryd.ntmps32
    go_wp2_with fail
    refine (replay_any A1 n1 c1 B log _ H1.out (by simp; omega) (by omega) HS.out).mono ?_
    rintro e w1 ⟨mb, rfl, hb, hm⟩
    rw [HRU.out] at hm ⊢
    simp only at hm ⊢
    have k0 : Bk w1 w.heap.size 25 #[.slice A0 n0 c0, .slice A1 n1 c1] := (Bk.new w 25 _).below hb (by simp)
    obtain ⟨x0, x1, _, _⟩ := k0.agg
    have H01 := Lib.hid (H0.out.below hb (by simp; omega))
    have HB1 := Lib.hid (HB.out.trans (hb.mono (by simp)))
    have hz : w.heap.size + 1 ≤ w1.heap.size := by have := hb.size; simp at this; omega
    have HM := Lib.hid hm
    have K0 := Lib.hid k0
    clear hm hb k0
    by_cases hx : x = 0
    · subst hx
      obtain ⟨b, rfl, hbge, hown⟩ := HM.out rfl
      clear HM
      have HO := Lib.hid (hown.mono (show n1 ≤ 1000 by omega)); have hbl := hown.lt; clear hown
      have KS : Hid (∀ W, Below w1.heap.size w1 W → W.cell? ⟨w.heap.size, 0, none⟩ = some (.slice A0 n0 c0)) := fun W hb => (hb.cell (p := ⟨w.heap.size, 0, none⟩) (by show w.heap.size < _; omega)).trans x0
      go_wp2_with fail
      go_region_held3 (fun w' => w'.cell? ⟨w.heap.size, 0, none⟩ = some (.slice A0 n0 c0)) (first | exact x0 | exact KS.out _ ((Below.refl _ _).drew.trans hb2) | exact KS.out _ (below_drewN' ((Below.refl _ _).drew.trans hb2) _)) (first | (go_at_call 35; refine (list_any b 1000 l _ HO.out.drew HSR.out (by omega)).mono ?_; rintro e w2 ⟨A, m, c, rfl, hSl, hmc, hcm, hb2, _⟩) | (go_at_call 62; refine (slEqual_any A A0 m c n0 c0 w2.heap.size l rs _ hSl ((H01.out.drew.below hb2 (by show _ ≤ w1.heap.size; omega)).more (by have : w1.heap.size ≤ w2.heap.size := hb2.size; omega)) (by omega)).mono ?_; rintro e w3 ⟨rfl, k, rfl⟩))
      have HB2 : Hid (Below w.heap.size w (w2.drewN k)) := below_drewN' (HB1.out.drew.trans (hb2.mono (by show _ ≤ w1.heap.size; omega))) _
      have HO2 : Hid ((w2.drewN k).ownsMap Tryd.prog 9 digR b 1000 (mapD l)) := (HO.out.drew.kept (below_grown (below_drewN' hb2 k) none) (by simp))
      have hk2 : Bk (w2.drewN k) w.heap.size 25 #[.slice A0 n0 c0, .slice A1 n1 c1] := (K0.out.drew.below hb2 (by show _ < w1.heap.size; omega)).drewN k
      clear hSl hb2 hcm
      by_cases he : l = rs
      · have hd : decide (l = rs) = true := decide_eq_true he
        have hfin : Hid (ce = 0) := by show _ = _; rw [hC2.out]; simp [he]
        rw [hd]
        have HE := Lib.hid he
        clear hd he
        go_wp2_with fail
        go_ret2
        exact HR.out _ hfin.out _ _ ⟨some b, rfl, HB2.out, fun _ => ⟨b, rfl, by simp at hbge; omega, by rw [← HE.out]; exact HO2.out⟩⟩
      · have hd : decide (l = rs) = false := decide_eq_false he
        have hfin : Hid (ce = 11) := by show _ = _; rw [hC2.out]; simp [he]
        rw [hd]
        clear hd he
        go_wp2_with fail
        go_ret2
        exact HR.out _ hfin.out _ _ ⟨none, rfl, HB2.out, fun h => by cases h⟩
    · have hne : (x != 0) = true := by rw [bne_iff_ne]; exact hx
      have hfin : Hid (ce = x) := by show _ = _; rw [hC2.out]; simp [hx]
      have HX := Lib.hid hx
      clear hx
      go_wp2_with fail
      go_ret2
      exact HR.out _ hfin.out _ _ ⟨none, rfl, HB1.out, fun h => absurd h HX.out⟩
end Go.Proofs.YtikmiabncbhioaaDoor
