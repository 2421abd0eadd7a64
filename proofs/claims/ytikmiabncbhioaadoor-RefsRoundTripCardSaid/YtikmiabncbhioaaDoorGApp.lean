/-
  refs.Apply, refs.Update.
-/
import Derived.Test.YtikmiabncbhioaaDoorGCln
import Derived.Test.YtikmiabncbhioaaDoorRApp
namespace Go.Proofs.YtikmiabncbhioaaDoor
open Go.RowKit Go.Maps

theorem Apd.grown {w w' : World} {base size n c : Nat} {e : TypeId} {A : Option Addr} {xs : List Value} {row : Option Nat} (h : Apd w base e size A n c xs) (hg : w.grownBy w' row) (hr : ∀ k, row = some k → k < base) : Apd w' base e size A n c xs := by
  rcases h with h | h
  · refine .inl (h.kept hg ?_)
    cases hv : (Value.slice A n c).ownBlock with
    | none => exact .inl rfl
    | some k =>
      refine .inr fun e => ?_
      have h1 := ownBlock_ge h k hv
      have h2 := hr k e.symm
      omega
  · exact .inr h
theorem own_below {w w' : World} {b n B : Nat} {D : DataW Unit} (h : w.ownsMap Tryd.prog 9 digR b n D) (hb : Below B w w') (hB : b < B) : w'.ownsMap Tryd.prog 9 digR b n D := by
  obtain ⟨es, clock, h1, h2⟩ := h
  exact ⟨es, clock, (hb.block b hB).trans h1, h2⟩
theorem stepG_err (l : List Rf) (u : Upd) : (stepG l u).2 = errU l u := by
  unfold stepG
  by_cases h : errU l u ≠ 0
  · rw [if_pos h]
  · rw [if_neg h]; exact (by simpa using h : errU l u = 0).symm
theorem stepG_set {l : List Rf} {u : Upd} (h : errU l u = 0) : (stepG l u).1 = setL l u.1 u.2.2 := by
  unfold stepG
  rw [if_neg (by simpa using h)]

set_option maxRecDepth 100000 in
set_option maxHeartbeats 4000000 in
theorem apply_any (A0 A1 A2 : Option Addr) (n0 c0 n1 c1 n2 c2 B : Nat) (rs : List Rf) (log us : List Upd) (w : World) (h0 : Sl w B 3 A0 n0 (flat rfC rs)) (h1 : Sl w B 5 A1 n1 (flat upC log)) (h2 : Sl w B 5 A2 n2 (flat upC us)) (hB : B ≤ w.heap.size)
    (hn0 : n0 ≤ maxLen) (hn1 : n1 ≤ maxLen) (hn2 : n2 ≤ 10000) (hs : ∀ u ∈ us, u.1.size ≤ maxLen) (hs2 : ∀ u ∈ log, u.1.size ≤ maxLen) :
    Calls Tryd.prog 16 #[.agg #[.slice A0 n0 c0, .slice A1 n1 c1], .slice A2 n2 c2] w (RetR (applyR rs log us) w) := by
  have HL1 := Lib.hid (h1.len upC_len (by omega)); have HL2 := Lib.hid (h2.len upC_len (by omega))
  have H0 := Lib.hid h0; have H1 := Lib.hid h1; have H2 := Lib.hid h2; clear h0 h1 h2
  have HS := Lib.hid hs; have HS2 := Lib.hid hs2; clear hs hs2
  have HN0 := Lib.hid hn0; have HN1 := Lib.hid hn1; clear hn0 hn1
  obtain ⟨i0, hi, hz0, hz1', hz2'⟩ := info_parts info30
  have Hi := Lib.hid hi; have Hz0 := Lib.hid hz0; have Hz1 := Lib.hid hz1'; have Hz2 := Lib.hid hz2'
  clear hi hz0 hz1' hz2'
  have HU : Hid (applyR rs log us = if checkE rs log ≠ 0 then ([], [], checkE rs log) else applyU rs log us) := rfl
  have HR : Hid (∀ r, applyR rs log us = r → ∀ e w', RetR r w e w' → RetR (applyR rs log us) w e w') := fun r h e w' hh => by rw [h]; exact hh
  go_enter Tryd.func16, Tryd.ntmps16
  go_wp2_with fail
  have hbel : Below w.heap.size w ((w.alloc (.cells #[.slice A0 n0 c0, .slice A1 n1 c1] 25)).alloc (.cells #[.slice none 0 0, .slice none 0 0] 25)) :=
    ((Below.refl _ w).alloc (Nat.le_refl _) _).alloc (by simp) _
  refine (open_any A0 A1 n0 c0 n1 c1 B rs log _ (H0.out.below hbel hB) (H1.out.below hbel hB) (by simp; omega) HN0.out HN1.out HS2.out).mono ?_
  rintro e w1 ⟨mb, rfl, hb1, hm⟩
  have k0 : Bk w1 w.heap.size 25 #[.slice A0 n0 c0, .slice A1 n1 c1] := ((Bk.new w 25 _).alloc _).below hb1 (by simp; omega)
  have k1 : Bk w1 (w.heap.size + 1) 25 #[.slice none 0 0, .slice none 0 0] := by
    have := Bk.new (w.alloc (.cells #[.slice A0 n0 c0, .slice A1 n1 c1] 25)) 25 #[.slice none 0 0, .slice none 0 0]
    rw [World.size_alloc] at this
    exact this.below hb1 (by simp)
  have HB1 : Hid (Below w.heap.size w w1) := hbel.trans (hb1.mono (by simp; omega))
  have hz1 : w.heap.size + 2 ≤ w1.heap.size := by have := hb1.size; simp at this; omega
  have HM := Lib.hid hm
  clear hb1 hbel hm
  have K1 := Lib.hid k1
  obtain ⟨x0, x1, _, _⟩ := k0.agg
  obtain ⟨r0, r1, f0, f1⟩ := k1.agg
  clear k0 k1
  by_cases hc : checkE rs log = 0
  · have hlen := check_len hc
    have hst : Hid (applyR rs log us = applyU rs log us) := by
      show _ = _
      rw [HU.out, hc, if_neg (by simp)]
    have hn1 : n1 ≤ 1000 := by rw [← HL1.out]; exact hlen
    have HSR := Lib.hid (check_srt hc)
    obtain ⟨b, rfl, hbge, hown⟩ := HM.out hc
    have hbge' : w.heap.size + 2 ≤ b := by simp at hbge; omega
    clear hbge HM
    have HO := Lib.hid hown; have hbl := hown.lt; clear hown
    have HCE := Lib.hid hc
    rw [HCE.out]
    clear hc hlen
    go_wp2_with fail
    refine (clone_any A1 n1 c1 B log _ (H1.out.below HB1.out hB) (by omega) (by omega)).mono ?_
    rintro e w2 ⟨A3, c3, rfl, ha3, hb2, hc3, hm3⟩
    have HA3 := Lib.hid ha3; have hz2 := hb2.size
    have K2 := Lib.hid (K1.out.below hb2 (by omega))
    have HO2 := Lib.hid (HO.out.kept (below_grown hb2 none) (by simp))
    have HB2 := Lib.hid (HB1.out.trans (hb2.mono (by omega)))
    have HC3 := Lib.hid hm3
    clear ha3 hb2 hm3 x0 x1 r0 r1 f0 f1
    go_wp2
    go_loopw [8, 26] (fun v i wr => ∃ (k : Nat) (A : Option Addr) (m c : Nat) (l : List Rf) (lg : List Upd), k ≤ n2 ∧ i = .int .i64 k ∧ v = .slice A m c ∧ Hid (Bk wr (w.heap.size + 1) 25 #[.slice none 0 0, .slice none 0 0]) ∧
        Hid (wr.ownsMap Tryd.prog 9 digR b (1000 + k) (mapD l)) ∧ Hid (Srt l) ∧ Hid (Apd wr w1.heap.size 30 5 A m c (flat upC lg)) ∧ m ≤ c ∧ Hid (c ≤ maxLen) ∧ m ≤ 1000 ∧ Hid (lg.length = m) ∧ Hid (Below w.heap.size w wr) ∧ w1.heap.size ≤ wr.heap.size ∧ Hid (applyR rs log us = applyU l lg (us.drop k))) (fun _ i _ => n2 - (intOf i).toNat)
    case atStart => exact ⟨0, A3, n1, c3, rs, log, Nat.zero_le _, rfl, rfl, K2.out, HO2.out, HSR.out, HA3.out, hc3, HC3.out, hn1, HL1.out, HB2.out, hz2, hst.out⟩
    case round =>
      obtain ⟨k, A, m, c, l, lg, hk, rfl, rfl, B1, O, SR, AP, hmc, hcm, hm, HLG, hBel, hwz, hrun⟩ := hrel
      by_cases hlt : k < n2
      · obtain ⟨b3, off, u, rfl, hbB, hu, y0, y1, y2, y3, y4⟩ := (H2.out.below hBel.out hB).upd hlt
        have HUk := Lib.hid hu
        have HUS := Lib.hid (HS.out u (List.mem_of_getElem? hu))
        clear hu
        have hst2 : Hid (applyR rs log us = if (stepU l lg u).2.2 ≠ 0 then ([], [], (stepU l lg u).2.2) else applyU (stepU l lg u).1 (stepU l lg u).2.1 (us.drop (k + 1))) := by
          show _ = _
          have hl := List.getElem?_eq_some_iff.1 HUk.out
          rw [hrun.out, List.drop_eq_getElem_cons hl.1, hl.2, applyU_step]
        obtain ⟨s, ⟨o0, o1⟩, ⟨q0, q1⟩⟩ := u
        have hlz : (k : Int) < (n2 : Int) := by omega
        go_wp2_with fail
        refine (stUpd_any b (1000 + k) l (s, (o0, o1), (q0, q1)) _ (O.out.alloc _) SR.out (by unfold maxLen; omega) HUS.out).mono ?_
        rintro e w3 ⟨rfl, hown3, hg3⟩
        have hzz : wr.heap.size + 1 ≤ w3.heap.size := by have := hg3.size; simp at this; omega
        have d3 : Bk w3 wr.heap.size 30 #[.string s, .int .u64 o0, .int .u64 o1, .int .u64 q0, .int .u64 q1] := (Bk.new wr 30 _).grown hg3 (by intro e; injection e; omega)
        have u0 := d3.cell 0; have u1 := d3.cell 1; have u2 := d3.cell 2; have u3 := d3.cell 3; have u4 := d3.cell 4
        simp at u0 u1 u2 u3 u4
        have e3 := (B1.out.alloc (.cells #[.string s, .int .u64 o0, .int .u64 o1, .int .u64 q0, .int .u64 q1] 30)).grown hg3 (by intro e; injection e; omega)
        obtain ⟨r0, r1, f0, f1⟩ := e3.agg
        have E3 := Lib.hid e3
        have HO3 := Lib.hid hown3
        have HA4 : Hid (Apd w3 w1.heap.size 30 5 A m c (flat upC lg)) := (AP.out.below ((Below.refl _ _).alloc (Nat.le_refl _) _)).grown hg3 (fun k e => by cases e; exact hbl)
        have HB3 : Hid (Below w.heap.size w w3) := (hBel.out.alloc (by omega) _).grown hg3 (by simp; omega) (fun k e => by cases e; omega)
        have SR3 : Hid (Srt (stepG l (s, (o0, o1), (q0, q1))).1) := stepG_srt SR.out
        clear hown3 hg3 y0 y1 y2 y3 y4 d3 e3
        have hGE := stepG_err l (s, (o0, o1), (q0, q1))
        by_cases hx : errU l (s, (o0, o1), (q0, q1)) = 0
        · have hGS := stepG_set hx
          rw [hGE, hx]
          rw [hGS] at HO3 SR3
          have HX := Lib.hid hx
          clear hx hGE hGS
          by_cases hlim : 1000 ≤ m
          · have hfin : Hid (applyR rs log us = ([], [], 4)) := by
              show _ = _
              have e1 : stepU l lg (s, (o0, o1), (q0, q1)) = ([], [], 4) := by
                unfold stepU
                rw [HX.out, if_neg (by simp), if_pos (by rw [HLG.out]; exact hlim)]
              rw [hst2.out, e1, if_pos (by simp)]
            go_wp2_with fail
            exact bodyPost_ret (res_cell25 Tryd.results16 rfl (E3.out.set2 _ _) rfl) rfl (HR.out _ hfin.out _ _ (retR_none rfl (below_set2 HB3.out (by omega) _ _)))
          · have hnx : Hid (applyR rs log us = applyU (setL l s (q0, q1)) (lg ++ [(s, (o0, o1), (q0, q1))]) (us.drop (k + 1))) := by
              show _ = _
              have e1 : stepU l lg (s, (o0, o1), (q0, q1)) = (setL l s (q0, q1), lg ++ [(s, (o0, o1), (q0, q1))], 0) := by
                unfold stepU
                rw [HX.out, if_neg (by simp), if_neg (by rw [HLG.out]; exact hlim)]
              rw [hst2.out, e1, if_neg (by simp)]
            have HLG2 : Hid ((lg ++ [(s, (o0, o1), (q0, q1))]).length = m + 1) := by show _ = _; rw [List.length_append, HLG.out]; rfl
            go_wp2_with (at_builtin; refine halt_ ?_)
            refine unhalt ?_
            refine wpList_append_apd (base := w1.heap.size) _ rfl (.tmp 41) (.tmp 43) 23 rfl 30 i0 _ 48 Tryd.underlying23 Hi.out Hz0.out Hz1.out Hz2.out rfl (by decide) A m c (flat upC lg) rfl (HA4.out.below ((Below.refl _ _).alloc (Nat.le_refl _) _)) (w3.heap.size + 1) _ 1 _ (flat upC [(s, (o0, o1), (q0, q1))]) rfl (Sl.new w3 30 (flat upC [(s, (o0, o1), (q0, q1))]) 1 rfl) (oneCells_up _) (by unfold maxLen; omega) (by omega) (by simp; omega) ?_
            intro A5 c5 w5 a5 hb5 hc5 hm5 hok5
            have hz5 : w3.heap.size + 1 ≤ w5.heap.size := by have := hb5.size; simp at this; omega
            have E5 := Lib.hid ((E3.out.alloc (.cells #[.string s, .int .u64 o0, .int .u64 o1, .int .u64 q0, .int .u64 q1] 30)).below hb5 (by omega))
            have HO5 := Lib.hid (own_below (HO3.out.alloc (.cells #[.string s, .int .u64 o0, .int .u64 o1, .int .u64 q0, .int .u64 q1] 30)) hb5 hbl)
            have HB5 := Lib.hid ((HB3.out.alloc (by omega) (.cells #[.string s, .int .u64 o0, .int .u64 o1, .int .u64 q0, .int .u64 q1] 30)).trans (hb5.mono (by omega)))
            rw [← flat_append] at a5
            have HA5 := Lib.hid a5; have HM5 := Lib.hid hm5
            clear a5 hb5 hm5 hok5 u0 u1 u2 u3 u4 r0 r1 f0 f1
            go_wp2
            go_roundw
            case rel => exact ⟨k + 1, A5, m + 1, c5, _, _, by omega, by go_num, rfl, E5.out, HO5.out, SR3.out, HA5.out, hc5, HM5.out, by omega, HLG2.out, HB5.out, by omega, hnx.out⟩
            case measure => simp [intOf]; omega
        · have hne : (errU l (s, (o0, o1), (q0, q1)) != 0) = true := by rw [bne_iff_ne]; exact hx
          have hfin : Hid (applyR rs log us = ([], [], errU l (s, (o0, o1), (q0, q1)))) := by
            show _ = _
            have e1 : stepU l lg (s, (o0, o1), (q0, q1)) = ([], [], errU l (s, (o0, o1), (q0, q1))) := if_pos hx
            rw [hst2.out, e1, if_pos hx]
          rw [hGE]
          clear hx hGE
          go_wp2_with fail
          exact bodyPost_ret (res_cell25 Tryd.results16 rfl (E3.out.set2 _ _) rfl) rfl (HR.out _ hfin.out _ _ (retR_none rfl (below_set2 HB3.out (by omega) _ _)))
      · have hfin : Hid (applyR rs log us = (l, lg, 0)) := by
          show _ = _
          rw [hrun.out, List.drop_of_length_le (by rw [HL2.out]; omega)]; rfl
        go_wp2_with fail
        refine (list_any b (1000 + k) l _ O.out SR.out (by omega)).mono ?_
        rintro e w3 ⟨A6, m6, c6, rfl, s6, hm6, hc6, hb6, _⟩
        have hz6 := hb6.size
        have e6 := B1.out.below hb6 (by omega)
        obtain ⟨r0, r1, f0, f1⟩ := e6.agg
        have E6 := Lib.hid e6; have S6 := Lib.hid s6; have HC6 := Lib.hid hc6
        have HB6 := Lib.hid (hBel.out.trans (hb6.mono (by omega)))
        have S7 := Lib.hid (AP.out.below hb6).sl
        clear e6 s6 hb6 hc6
        go_wp2_with fail
        exact bodyPost_ret (res_cell25 Tryd.results16 rfl (E6.out.set2 _ _) rfl) rfl (HR.out _ hfin.out _ _ ⟨A6, m6, c6, A, m, c, rfl, (S6.out.box2 (by omega) (notSlice_rf _) E6.out _ _).more (Nat.le_of_eq (by simp)), hm6, HC6.out, (S7.out.box2 (by omega) (notSlice_up _) E6.out _ _).more (Nat.le_of_eq (by simp)), hmc, hcm.out, below_set2 HB6.out (by omega) _ _⟩)
  · have hne : (checkE rs log != 0) = true := by rw [bne_iff_ne]; exact hc
    have hst : Hid (applyR rs log us = ([], [], checkE rs log)) := by
      show _ = _
      rw [HU.out, if_pos hc]
    clear hc
    go_wp2
    exact bodyPost_ret (res_cell25 Tryd.results16 rfl (K1.out.set2 _ _) rfl) rfl (HR.out _ hst.out _ _ (retR_none rfl (below_set2 HB1.out (by omega) _ _)))
end Go.Proofs.YtikmiabncbhioaaDoor
