/-
  cordwoodref11.Apply: several updates, all or none.
-/
import Derived.Test.YtikmiabncbhioaaDoorRChk
namespace Go.Proofs.YtikmiabncbhioaaDoor
open Go.RowKit

theorem applyU_step (l : List Rf) (log : List Upd) (u : Upd) (us : List Upd) : applyU l log (u :: us) = if (stepU l log u).2.2 ≠ 0 then ([], [], (stepU l log u).2.2) else applyU (stepU l log u).1 (stepU l log u).2.1 us := by
  rw [applyU]
  unfold stepU
  by_cases h1 : errU l u ≠ 0
  · rw [if_pos h1, if_pos h1, if_pos h1]
  · rw [if_neg h1, if_neg h1]
    by_cases h2 : 1000 ≤ log.length
    · rw [if_pos h2, if_pos h2, if_pos (by simp)]
    · rw [if_neg h2, if_neg h2, if_neg (by simp)]
theorem stepU_log {l : List Rf} {log : List Upd} {u : Upd} (h : (stepU l log u).2.2 = 0) : (stepU l log u).2.1.length ≤ 1000 ∧ (stepU l log u).1.length ≤ l.length + 1 := by
  unfold stepU at h ⊢
  by_cases h1 : errU l u ≠ 0
  · rw [if_pos h1] at h; exact absurd h h1
  · rw [if_neg h1] at h ⊢
    by_cases h2 : 1000 ≤ log.length
    · rw [if_pos h2] at h; cases h
    · rw [if_neg h2] at h ⊢
      exact ⟨by simp; omega, setL_len _ _ _⟩

set_option maxRecDepth 100000 in
set_option maxHeartbeats 4000000 in
theorem refApply_any (A0 A1 A2 : Option Addr) (n0 c0 n1 c1 n2 c2 B : Nat) (rs : List Rf) (log us : List Upd) (w : World) (h0 : Sl w B 3 A0 n0 (flat rfC rs)) (h1 : Sl w B 5 A1 n1 (flat upC log)) (h2 : Sl w B 5 A2 n2 (flat upC us)) (hB : B ≤ w.heap.size)
    (hnc : n0 ≤ c0) (hcm : c0 ≤ maxLen) (hnc1 : n1 ≤ c1) (hcm1 : c1 ≤ maxLen) (hn0 : n0 ≤ 10000) (hn2 : n2 ≤ 10000) (hs : ∀ u ∈ us, u.1.size ≤ maxLen) (hs2 : ∀ u ∈ log, u.1.size ≤ maxLen) :
    Calls Tryd.prog 17 #[.agg #[.slice A0 n0 c0, .slice A1 n1 c1], .slice A2 n2 c2] w (RetR (applyR rs log us) w) := by
  have HL1 := Lib.hid (h1.len upC_len (by omega)); have HL2 := Lib.hid (h2.len upC_len (by omega))
  have H0 := Lib.hid h0; have H1 := Lib.hid h1; have H2 := Lib.hid h2; clear h0 h1 h2
  have HS := Lib.hid hs; have HS2 := Lib.hid hs2; clear hs hs2
  have HC := Lib.hid hcm; have HC1 := Lib.hid hcm1; clear hcm hcm1
  have HN1 := Lib.hid (Nat.le_trans hnc1 HC1.out)
  have HU : Hid (applyR rs log us = if checkE rs log ≠ 0 then ([], [], checkE rs log) else applyU rs log us) := rfl
  have HR : Hid (∀ r, applyR rs log us = r → ∀ e w', RetR r w e w' → RetR (applyR rs log us) w e w') := fun r h e w' hh => by rw [h]; exact hh
  go_enter Tryd.func17, Tryd.ntmps17
  go_wp2_with fail
  have hbel : Below w.heap.size w ((w.alloc (.cells #[.slice A0 n0 c0, .slice A1 n1 c1] 25)).alloc (.cells #[.slice none 0 0, .slice none 0 0] 25)) :=
    ((Below.refl _ w).alloc (Nat.le_refl _) _).alloc (by simp) _
  refine (refCheck_any A0 A1 n0 c0 n1 c1 B rs log _ (H0.out.below hbel hB) (H1.out.below hbel hB) (by simp; omega) HN1.out HS2.out).mono ?_
  rintro e w1 ⟨rfl, hb1⟩
  have k0 : Bk w1 w.heap.size 25 #[.slice A0 n0 c0, .slice A1 n1 c1] := ((Bk.new w 25 _).alloc _).below hb1 (by simp; omega)
  have k1 : Bk w1 (w.heap.size + 1) 25 #[.slice none 0 0, .slice none 0 0] := by
    have := Bk.new (w.alloc (.cells #[.slice A0 n0 c0, .slice A1 n1 c1] 25)) 25 #[.slice none 0 0, .slice none 0 0]
    rw [World.size_alloc] at this
    exact this.below hb1 (by simp)
  have HB1 : Hid (Below w.heap.size w w1) := hbel.trans (hb1.mono (by simp; omega))
  have hz1 : w.heap.size + 2 ≤ w1.heap.size := by have := hb1.size; simp at this; omega
  clear hb1 hbel
  have K0 := Lib.hid k0; have K1 := Lib.hid k1
  obtain ⟨x0, x1, _, _⟩ := k0.agg
  obtain ⟨r0, r1, f0, f1⟩ := k1.agg
  clear k0 k1
  by_cases hc : checkE rs log = 0
  · have hlen := check_len hc
    have hst : Hid (applyR rs log us = applyU rs log us) := by
      show _ = _
      rw [HU.out, hc, if_neg (by simp)]
    have hn1 : n1 ≤ 1000 := by rw [← HL1.out]; exact hlen
    have HCE := Lib.hid hc
    rw [HCE.out]
    clear hc hlen x0 x1 r0 r1 f0 f1
    have S0 := Lib.hid ((H0.out.below HB1.out hB).more (show B ≤ w1.heap.size by omega)); have S1 := Lib.hid ((H1.out.below HB1.out hB).more (show B ≤ w1.heap.size by omega))
    go_wp2
    go_loopw [7] (fun i wr => ∃ (k : Nat) (A : Option Addr) (m c : Nat) (A' : Option Addr) (m' c' : Nat) (l : List Rf) (lg : List Upd), k ≤ n2 ∧ i = .int .i64 k ∧ Hid (Bk wr w.heap.size 25 #[.slice A m c, .slice A' m' c']) ∧ Hid (Bk wr (w.heap.size + 1) 25 #[.slice none 0 0, .slice none 0 0]) ∧
        Hid (Sl wr wr.heap.size 3 A m (flat rfC l)) ∧ m ≤ c ∧ Hid (c ≤ maxLen) ∧ Hid (Sl wr wr.heap.size 5 A' m' (flat upC lg)) ∧ m' ≤ c' ∧ Hid (c' ≤ maxLen) ∧ m ≤ 10000 + k ∧ m' ≤ 1000 ∧ Hid (Below w.heap.size w wr) ∧ w.heap.size + 2 ≤ wr.heap.size ∧ Hid (applyR rs log us = applyU l lg (us.drop k))) (fun i _ => n2 - (intOf i).toNat)
    case atStart => exact ⟨0, A0, n0, c0, A1, n1, c1, rs, log, Nat.zero_le _, rfl, K0.out, K1.out, S0.out, hnc, HC.out, S1.out, hnc1, HC1.out, by omega, hn1, HB1.out, hz1, hst.out⟩
    case round =>
      obtain ⟨k, A, m, c, A', m', c', l, lg, hk, rfl, B0, B1, T0, hmc, hcm, T1, hmc', hcm', hm, hm', hBel, hwz, hrun⟩ := hrel
      by_cases hlt : k < n2
      · obtain ⟨b, off, u, rfl, hbB, hu, y0, y1, y2, y3, y4⟩ := (H2.out.below hBel.out hB).upd hlt
        have HUk := Lib.hid hu
        have HUS := Lib.hid (HS.out u (List.mem_of_getElem? hu))
        clear hu
        have hst2 : Hid (applyR rs log us = if (stepU l lg u).2.2 ≠ 0 then ([], [], (stepU l lg u).2.2) else applyU (stepU l lg u).1 (stepU l lg u).2.1 (us.drop (k + 1))) := by
          show _ = _
          have hl := List.getElem?_eq_some_iff.1 HUk.out
          rw [hrun.out, List.drop_eq_getElem_cons hl.1, hl.2, applyU_step]
        obtain ⟨s, ⟨o0, o1⟩, ⟨q0, q1⟩⟩ := u
        obtain ⟨x0, x1, g0, g1⟩ := B0.out.agg
        have hlz : (k : Int) < (n2 : Int) := by omega
        have KS : Hid (∀ W, Below wr.heap.size wr W → W.cell? ⟨w.heap.size, 0, none⟩ = some (.slice A m c) ∧ W.cell? ⟨w.heap.size, 1, none⟩ = some (.slice A' m' c') ∧ W.cell? ⟨b, off + k * 5, none⟩ = some (.string s) ∧ W.cell? ⟨b, off + k * 5 + 1, none⟩ = some (.int .u64 o0) ∧ W.cell? ⟨b, off + k * 5 + 2, none⟩ = some (.int .u64 o1) ∧ W.cell? ⟨b, off + k * 5 + 3, none⟩ = some (.int .u64 q0) ∧ W.cell? ⟨b, off + k * 5 + 4, none⟩ = some (.int .u64 q1)) := fun W hb =>
          ⟨(hb.cell (p := ⟨w.heap.size, 0, none⟩) (by show w.heap.size < _; omega)).trans x0, (hb.cell (p := ⟨w.heap.size, 1, none⟩) (by show w.heap.size < _; omega)).trans x1, (hb.cell (p := ⟨b, off + k * 5, none⟩) (by show b < _; omega)).trans y0, (hb.cell (p := ⟨b, off + k * 5 + 1, none⟩) (by show b < _; omega)).trans y1, (hb.cell (p := ⟨b, off + k * 5 + 2, none⟩) (by show b < _; omega)).trans y2, (hb.cell (p := ⟨b, off + k * 5 + 3, none⟩) (by show b < _; omega)).trans y3, (hb.cell (p := ⟨b, off + k * 5 + 4, none⟩) (by show b < _; omega)).trans y4⟩
        go_wp2_with fail
        go_region_held3 (fun w' => w'.cell? ⟨w.heap.size, 0, none⟩ = some (.slice A m c) ∧ w'.cell? ⟨w.heap.size, 1, none⟩ = some (.slice A' m' c') ∧ w'.cell? ⟨b, off + k * 5, none⟩ = some (.string s) ∧ w'.cell? ⟨b, off + k * 5 + 1, none⟩ = some (.int .u64 o0) ∧ w'.cell? ⟨b, off + k * 5 + 2, none⟩ = some (.int .u64 o1) ∧ w'.cell? ⟨b, off + k * 5 + 3, none⟩ = some (.int .u64 q0) ∧ w'.cell? ⟨b, off + k * 5 + 4, none⟩ = some (.int .u64 q1))
          (first | exact ⟨x0, x1, y0, y1, y2, y3, y4⟩ | exact KS.out _ (Below.refl _ _).drew | exact KS.out _ ((Below.refl _ _).drew.alloc (Nat.le_refl _) _) | exact KS.out _ ((Below.refl _ _).drew.trans hb2) | exact KS.out _ (((Below.refl _ _).drew.trans hb2).alloc hb2.size _) | exact KS.out _ (((Below.refl _ _).drew.alloc (Nat.le_refl _) _).trans (hb2.mono (by simp))) | exact KS.out _ ((((Below.refl _ _).drew.alloc (Nat.le_refl _) _).trans (hb2.mono (by simp))).setCell (p := ⟨wr.heap.size, 0, none⟩) (Nat.le_refl _) _) | exact KS.out _ (below_set2 (((Below.refl _ _).drew.alloc (Nat.le_refl _) _).trans (hb2.mono (by simp))) (Nat.le_refl _) _ _))
          (first | (go_at_call 31; refine (refUpd_any A A' m c m' c' wr.heap.size l lg (s, (o0, o1), (q0, q1)) _ (by first | exact T0.out.drew | exact T0.out.drew.alloc (Nat.le_refl _) _) (by first | exact T1.out.drew | exact T1.out.drew.alloc (Nat.le_refl _) _) (by simp) hmc hcm.out (by omega) hm' HUS.out).mono ?_; rintro e w2 ⟨Ar, mr, cr, Al, ml, cl, rfl, s1, s2, s3, s4, s5, s6, hb2⟩; try (have d2 : Bk w2 wr.heap.size 25 #[.slice none 0 0, .slice none 0 0] := (Bk.new wr.drew 25 #[.slice none 0 0, .slice none 0 0]).below hb2 (by simp); have c20 := d2.cell 0; have c21 := d2.cell 1; have f20 := d2.free 0; have f21 := d2.free 1; have D2 := Lib.hid d2; simp at c20 c21; clear d2)))
        · have Fnb : Bk (w2.alloc (.cells #[.slice Ar mr cr, .slice Al ml cl] 25)) w2.heap.size 25 #[.slice Ar mr cr, .slice Al ml cl] := Bk.new _ _ _
          have F0 := (B0.out.drew.below hb2 (by show w.heap.size < wr.heap.size; omega)).alloc (.cells #[.slice Ar mr cr, .slice Al ml cl] 25)
          have F1 := (B1.out.drew.below hb2 (by show w.heap.size + 1 < wr.heap.size; omega)).alloc (.cells #[.slice Ar mr cr, .slice Al ml cl] 25)
          have T3 := (s1.alloc (Nat.le_refl _) (.cells #[.slice Ar mr cr, .slice Al ml cl] 25)).more (show w2.heap.size ≤ (w2.alloc (.cells #[.slice Ar mr cr, .slice Al ml cl] 25)).heap.size by simp)
          have T4 := (s4.alloc (Nat.le_refl _) (.cells #[.slice Ar mr cr, .slice Al ml cl] 25)).more (show w2.heap.size ≤ (w2.alloc (.cells #[.slice Ar mr cr, .slice Al ml cl] 25)).heap.size by simp)
          have hzz : wr.heap.size ≤ w2.heap.size := hb2.size
          have hBW : Below w.heap.size w (w2.alloc (.cells #[.slice Ar mr cr, .slice Al ml cl] 25)) := (hBel.out.drew.trans (hb2.mono (by show w.heap.size ≤ wr.heap.size; omega))).alloc (by omega) _
          have hWz : w.heap.size + 2 ≤ (w2.alloc (.cells #[.slice Ar mr cr, .slice Al ml cl] 25)).heap.size := by simp; omega
          clear s1 s4 hb2
          generalize hnb : w2.heap.size = nb at *
          clear hnb
          generalize hW : w2.alloc (.cells #[.slice Ar mr cr, .slice Al ml cl] 25) = W at *
          clear hW
          obtain ⟨z0, z1, _, _⟩ := Fnb.agg
          obtain ⟨r0, r1, f0, f1⟩ := F1.agg
          obtain ⟨p0, p1, g0, g1⟩ := F0.agg
          have GN := Lib.hid Fnb; have G0 := Lib.hid F0; have G1 := Lib.hid F1; have V3 := Lib.hid T3; have V4 := Lib.hid T4; have VB := Lib.hid hBW; have S3 := Lib.hid s3; have S6 := Lib.hid s6
          clear Fnb F0 F1 T3 T4 hBW s3 s6 x0 x1 y0 y1 y2 y3 y4
          generalize hxx : (stepU l lg (s, (o0, o1), (q0, q1))).2.2 = xx at *
          have HX := Lib.hid hxx; clear hxx
          by_cases hx : xx = 0
          · subst hx
            have hl := stepU_log HX.out
            have hlens : mr ≤ 10000 + (k + 1) ∧ ml ≤ 1000 := by
              have e1 := V3.out.len rfC_len (by omega)
              have e2 := V4.out.len upC_len (by omega)
              have e3 := T0.out.len rfC_len (by omega)
              omega
            have hnx : Hid (applyR rs log us = applyU (stepU l lg (s, (o0, o1), (q0, q1))).1 (stepU l lg (s, (o0, o1), (q0, q1))).2.1 (us.drop (k + 1))) := by
              show _ = _
              rw [hst2.out, if_neg (by simp)]
            clear hl
            go_wp2
            go_roundw
            case rel => exact ⟨k + 1, Ar, mr, cr, Al, ml, cl, (stepU l lg (s, (o0, o1), (q0, q1))).1, (stepU l lg (s, (o0, o1), (q0, q1))).2.1, by omega, by go_num, G0.out.set2 _ _, (G1.out.far (by simp) _).far (by simp) _, (V3.out.box2 (by omega) (notSlice_rf _) G0.out _ _).more (Nat.le_of_eq (by simp)), s2, S3.out, (V4.out.box2 (by omega) (notSlice_up _) G0.out _ _).more (Nat.le_of_eq (by simp)), s5, S6.out, hlens.1, hlens.2, below_set2 VB.out (Nat.le_refl _) _ _, by simp; omega, hnx⟩
            case measure => simp [intOf]; omega
          · have hne : (xx != 0) = true := by rw [bne_iff_ne]; exact hx
            have hfin : Hid (applyR rs log us = ([], [], xx)) := by
              show _ = _
              rw [hst2.out, if_pos hx]
            clear hx
            go_wp2
            exact bodyPost_ret (res_cell25 Tryd.results17 rfl (G1.out.set2 _ _) rfl) rfl (HR.out _ hfin.out _ _ (retR_none rfl (below_set2 VB.out (by omega) _ _)))
        · have Fnb := D2.out.set2 (.slice Ar mr cr) (.slice Al ml cl)
          have F0 := (((B0.out.drew.alloc (.cells #[.slice none 0 0, .slice none 0 0] 25)).below hb2 (by simp; omega)).far (p := ⟨wr.heap.size, 0, none⟩) (show w.heap.size ≠ wr.heap.size by omega) (.slice Ar mr cr)).far (p := ⟨wr.heap.size, 1, none⟩) (show w.heap.size ≠ wr.heap.size by omega) (.slice Al ml cl)
          have F1 := (((B1.out.drew.alloc (.cells #[.slice none 0 0, .slice none 0 0] 25)).below hb2 (by simp; omega)).far (p := ⟨wr.heap.size, 0, none⟩) (show w.heap.size + 1 ≠ wr.heap.size by omega) (.slice Ar mr cr)).far (p := ⟨wr.heap.size, 1, none⟩) (show w.heap.size + 1 ≠ wr.heap.size by omega) (.slice Al ml cl)
          have T3 := (s1.box2 (by omega) (notSlice_rf _) D2.out (.slice Ar mr cr) (.slice Al ml cl)).more (show w2.heap.size ≤ ((w2.setCell ⟨wr.heap.size, 0, none⟩ (.slice Ar mr cr)).setCell ⟨wr.heap.size, 1, none⟩ (.slice Al ml cl)).heap.size from Nat.le_of_eq (by simp))
          have T4 := (s4.box2 (by omega) (notSlice_up _) D2.out (.slice Ar mr cr) (.slice Al ml cl)).more (show w2.heap.size ≤ ((w2.setCell ⟨wr.heap.size, 0, none⟩ (.slice Ar mr cr)).setCell ⟨wr.heap.size, 1, none⟩ (.slice Al ml cl)).heap.size from Nat.le_of_eq (by simp))
          have hzz : wr.heap.size + 1 ≤ w2.heap.size := by have := hb2.size; simp at this; omega
          have hBW : Below w.heap.size w ((w2.setCell ⟨wr.heap.size, 0, none⟩ (.slice Ar mr cr)).setCell ⟨wr.heap.size, 1, none⟩ (.slice Al ml cl)) := below_set2 ((hBel.out.drew.alloc (by show w.heap.size ≤ wr.heap.size; omega) _).trans (hb2.mono (by simp; omega))) (by omega) _ _
          have hWz : w.heap.size + 2 ≤ ((w2.setCell ⟨wr.heap.size, 0, none⟩ (.slice Ar mr cr)).setCell ⟨wr.heap.size, 1, none⟩ (.slice Al ml cl)).heap.size := by simp; omega
          clear s1 s4 hb2 D2 c20 c21 f20 f21
          generalize hW : (w2.setCell ⟨wr.heap.size, 0, none⟩ (.slice Ar mr cr)).setCell ⟨wr.heap.size, 1, none⟩ (.slice Al ml cl) = W at *
          clear hW
          obtain ⟨z0, z1, _, _⟩ := Fnb.agg
          obtain ⟨r0, r1, f0, f1⟩ := F1.agg
          obtain ⟨p0, p1, g0, g1⟩ := F0.agg
          have GN := Lib.hid Fnb; have G0 := Lib.hid F0; have G1 := Lib.hid F1; have V3 := Lib.hid T3; have V4 := Lib.hid T4; have VB := Lib.hid hBW; have S3 := Lib.hid s3; have S6 := Lib.hid s6
          clear Fnb F0 F1 T3 T4 hBW s3 s6 x0 x1 y0 y1 y2 y3 y4
          generalize hxx : (stepU l lg (s, (o0, o1), (q0, q1))).2.2 = xx at *
          have HX := Lib.hid hxx; clear hxx
          by_cases hx : xx = 0
          · subst hx
            have hl := stepU_log HX.out
            have hlens : mr ≤ 10000 + (k + 1) ∧ ml ≤ 1000 := by
              have e1 := V3.out.len rfC_len (by omega)
              have e2 := V4.out.len upC_len (by omega)
              have e3 := T0.out.len rfC_len (by omega)
              omega
            have hnx : Hid (applyR rs log us = applyU (stepU l lg (s, (o0, o1), (q0, q1))).1 (stepU l lg (s, (o0, o1), (q0, q1))).2.1 (us.drop (k + 1))) := by
              show _ = _
              rw [hst2.out, if_neg (by simp)]
            clear hl
            go_wp2
            go_roundw
            case rel => exact ⟨k + 1, Ar, mr, cr, Al, ml, cl, (stepU l lg (s, (o0, o1), (q0, q1))).1, (stepU l lg (s, (o0, o1), (q0, q1))).2.1, by omega, by go_num, G0.out.set2 _ _, (G1.out.far (by simp) _).far (by simp) _, (V3.out.box2 (by omega) (notSlice_rf _) G0.out _ _).more (Nat.le_of_eq (by simp)), s2, S3.out, (V4.out.box2 (by omega) (notSlice_up _) G0.out _ _).more (Nat.le_of_eq (by simp)), s5, S6.out, hlens.1, hlens.2, below_set2 VB.out (Nat.le_refl _) _ _, by simp; omega, hnx⟩
            case measure => simp [intOf]; omega
          · have hne : (xx != 0) = true := by rw [bne_iff_ne]; exact hx
            have hfin : Hid (applyR rs log us = ([], [], xx)) := by
              show _ = _
              rw [hst2.out, if_pos hx]
            clear hx
            go_wp2
            exact bodyPost_ret (res_cell25 Tryd.results17 rfl (G1.out.set2 _ _) rfl) rfl (HR.out _ hfin.out _ _ (retR_none rfl (below_set2 VB.out (by omega) _ _)))
      · have hfin : Hid (applyR rs log us = (l, lg, 0)) := by
          show _ = _
          rw [hrun.out, List.drop_of_length_le (by rw [HL2.out]; omega)]; rfl
        obtain ⟨p0, p1, g0, g1⟩ := B0.out.agg
        obtain ⟨r0, r1, f0, f1⟩ := B1.out.agg
        go_wp2
        exact bodyPost_ret (res_cell25 Tryd.results17 rfl (B1.out.set2 _ _) rfl) rfl (HR.out _ hfin.out _ _ ⟨A, m, c, A', m', c', rfl, (T0.out.box2 (by omega) (notSlice_rf _) B1.out _ _).more (Nat.le_of_eq (by simp)), hmc, hcm.out, (T1.out.box2 (by omega) (notSlice_up _) B1.out _ _).more (Nat.le_of_eq (by simp)), hmc', hcm'.out, below_set2 hBel.out (by omega) _ _⟩)
  · have hne : (checkE rs log != 0) = true := by rw [bne_iff_ne]; exact hc
    have hst : Hid (applyR rs log us = ([], [], checkE rs log)) := by
      show _ = _
      rw [HU.out, if_pos hc]
    clear hc
    go_wp2
    exact bodyPost_ret (res_cell25 Tryd.results17 rfl (K1.out.set2 _ _) rfl) rfl (HR.out _ hst.out _ _ (retR_none rfl (below_set2 HB1.out (by omega) _ _)))
end Go.Proofs.YtikmiabncbhioaaDoor
