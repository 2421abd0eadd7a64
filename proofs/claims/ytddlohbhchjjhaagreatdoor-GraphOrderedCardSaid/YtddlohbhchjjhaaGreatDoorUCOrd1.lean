/-
  Lemmas: slices.Index on strings. GraphOrdered.
-/
import Derived.Test.YtddlohbhchjjhaaGreatDoorU13

namespace Go.Proofs.YtddlohbhchjjhaaGreatDoor
open Go.RowKit

/-- the index of the first element that is equal, or -1 -/
def IxR (l : List ByteArray) (s : ByteArray) (z : Int) : Prop := (z = -1 ∧ s ∉ l) ∨ ∃ k : Nat, z = (k : Int) ∧ l[k]? = some s ∧ s ∉ l.take k
theorem IxR.nat {l : List ByteArray} {s : ByteArray} {z : Int} (h : IxR l s z) (hs : s ∈ l) : ∃ k : Nat, z = (k : Int) ∧ l[k]? = some s ∧ s ∉ l.take k := by
  rcases h with ⟨_, h⟩ | h
  · exact absurd hs h
  · exact h
theorem IxR.lt {l : List ByteArray} {d : ByteArray} {z : Int} {k : Nat} (h : IxR l d z) (hd : d ∈ l.take k) : ∃ i : Nat, z = (i : Int) ∧ i < k := by
  obtain ⟨i, h1, h2, h3⟩ := h.nat (List.mem_of_mem_take hd)
  refine ⟨i, h1, ?_⟩
  rcases Nat.lt_or_ge i k with e | e
  · exact e
  · exact absurd (List.take_subset_take_left l e hd) h3
set_option maxRecDepth 100000 in
set_option maxHeartbeats 1000000 in
theorem indexS_any (A : Option Addr) (n c B : Nat) (l : List ByteArray) (s : ByteArray) (w : World) (h0 : Sl w B 1 A n (strs l)) (hn : n ≤ maxLen) :
    Calls Tryz.prog 28 #[.slice A n c, .string s] w fun e w' => (∃ z : Int, e = .returned (.int .i64 z) ∧ IxR l s z) ∧ w' = w := by
  unfold maxLen at hn
  have HL0 : Hid (l.length = n) := by have := h0.1; rw [strs_len] at this; show _ = _; omega
  have H0 := Lib.hid h0; clear h0
  go_enter Tryz.func28, Tryz.ntmps28
  go_wp2
  go_loopw [8] (fun i wr => ∃ k : Nat, k ≤ n ∧ i = .int .i64 k ∧ wr = w ∧ Hid (s ∉ l.take k)) (fun i _ => n - (intOf i).toNat)
  case atStart => exact ⟨0, Nat.zero_le _, rfl, rfl, fun hm => by simp at hm⟩
  case round =>
    obtain ⟨k, hk, rfl, rfl, hN⟩ := hrel
    by_cases hlt : k < n
    · obtain ⟨b, off, v, rfl, hb, hv, z0⟩ := H0.out.str_at hlt
      have hkz : (k : Int) < (n : Int) := by omega
      have HV := Lib.hid hv; clear hv
      have hse := str_dec s v
      by_cases e : s = v
      · rw [decide_eq_true e] at hse
        have HE := Lib.hid e; clear e
        go_wp2
        go_ret
        exact ⟨⟨_, rfl, .inr ⟨k, rfl, by rw [HV.out, HE.out], hN.out⟩⟩, rfl⟩
      · rw [decide_eq_false e] at hse
        have HN : Hid (s ∉ l.take (k + 1)) := fun hm => by
          rw [take_snoc HV.out] at hm
          rcases List.mem_append.1 hm with hm | hm
          · exact hN.out hm
          · exact e (List.mem_singleton.1 hm)
        clear e
        go_wp2
        go_roundw
        case rel => exact ⟨k + 1, hlt, by go_num, trivial, HN.out⟩
        case measure => simp [intOf]; omega
    · have hkz : ¬ (k : Int) < (n : Int) := by omega
      have HN : Hid (s ∉ l) := by
        have := hN.out
        rwa [List.take_of_length_le (by rw [HL0.out]; omega)] at this
      go_wp2
      go_ret
      exact ⟨⟨_, rfl, .inl ⟨rfl, HN.out⟩⟩, rfl⟩
end Go.Proofs.YtddlohbhchjjhaaGreatDoor

namespace Go.Proofs.YtddlohbhchjjhaaGreatDoor
open Go.RowKit Go.Maps

theorem ordd_all {ts : List Tg} {l : List ByteArray} (h : Ordd ts l) (hl : l.length = ts.length) {t : Tg} (ht : t ∈ ts) : t.lab ∈ l := by
  refine Classical.byContradiction fun hn => ?_
  have := nodup_len (t.lab :: l) (ts.map Tg.lab) (List.nodup_cons.2 ⟨hn, h.nodup⟩) fun x hx => by
    rcases List.mem_cons.1 hx with rfl | hx
    · exact List.mem_map_of_mem ht
    · exact (isT_iff ts x).1 (h.isT x hx)
  simp at this
  omega
set_option maxRecDepth 100000 in
set_option maxHeartbeats 16000000 in
theorem lawOrd_any (A : Option Addr) (n c : Nat) (ts : List Tg) (w : World) (h0 : Sl w w.heap.size 4 A n (flat tgC ts)) (hok : ∀ t ∈ ts, TgOk w w.heap.size t) (hnc : n ≤ c) (hcm : c ≤ maxLen) :
    Calls Tryz.prog 6 #[.agg #[.slice A n c]] w (LawEnd w) := by
  have H0 := Lib.hid h0; have HOK := Lib.hid hok
  have HTL := Lib.hid (h0.len tgC_len (by omega))
  clear h0 hok
  have hnm : n ≤ 9223372036854775807 := by unfold maxLen at hcm; omega
  obtain ⟨w0, hW0⟩ : ∃ W0, w.alloc (.cells #[.slice A n c] 27) = W0 := ⟨_, rfl⟩
  have HB0 : Hid (Below w.heap.size w w0) := by rw [← hW0]; exact (Below.refl _ w).alloc (Nat.le_refl _) _
  have HG0 : Hid (Bk w0 w.heap.size 27 #[.slice A n c]) := by rw [← hW0]; exact Bk.new w _ _
  have u0 := HG0.out.cell 0
  simp at u0
  have HGR := Lib.hid (rgreatS_any A n c w.heap.size ts w0 (H0.out.below HB0.out (Nat.le_refl _)) (fun t ht => (HOK.out t ht).below HB0.out (Nat.le_refl _)) hnc hcm)
  go_enter Tryz.func6, Tryz.ntmps6
  go_wp2_with fail
  refine HGR.out.mono ?_
  rintro e w1 ⟨r, rfl, hsm, rfl⟩
  cases r with
  | true =>
    clear hsm
    go_wp2_with fail
    refine (awake_any _).mono ?_
    rintro e wz ⟨rfl, hbz⟩
    have HBz := Lib.hid (HB0.out.trans (hbz.mono HB0.out.size)); clear hbz
    go_wp2_with fail
    go_ret
    exact ⟨rfl, HBz.out⟩

  | false =>
    obtain ⟨hn12, hsm⟩ := hsm rfl
    have HSM := Lib.hid hsm; clear hsm HGR hW0
    have HO := Lib.hid (order_any A n c w.heap.size ts w0 (H0.out.below HB0.out (Nat.le_refl _)) (fun t ht => (HOK.out t ht).below HB0.out (Nat.le_refl _)) HB0.out.size hnc hcm)
    go_wp2_with fail
    refine HO.out.mono ?_
    rintro e w2 ⟨A1, m1, c1, l, err, rfl, hs, hm, hc, hr, hb⟩
    have HB2 : Hid (Below w.heap.size w w2) := HB0.out.trans (hb.mono HB0.out.size)
    have HG2 := Lib.hid (HG0.out.below hb HG0.out.lt)
    have HS2 := Lib.hid hs; have HM2 := Lib.hid (Nat.le_trans hm hc)
    have hml : l.length = m1 := by have := hs.1; rw [strs_len] at this; omega
    clear hs hm hc hb u0 HO HB0 HG0
    have u0 := HG2.out.cell 0
    simp at u0
    rcases hr with ⟨hv, rfl, rfl⟩ | ⟨hv, hl, rfl⟩
    · obtain rfl : m1 = 0 := hml.symm
      have HV := Lib.hid (rvalid_any A n c w.heap.size ts w2 (H0.out.below HB2.out (Nat.le_refl _)) (fun t ht => (HOK.out t ht).below HB2.out (Nat.le_refl _)) HB2.out.size hnc hcm)
      have HNV := Lib.hid hv
      clear hv hml
      go_wp2_with fail
      refine HV.out.mono ?_
      rintro e w3 ⟨r, rfl, hr, hb3⟩
      obtain rfl : r = false := by
        cases r with
        | false => rfl
        | true => exact absurd (hr.1 rfl) HNV.out
      have HB3 : Hid (Below w.heap.size w w3) := HB2.out.trans (hb3.mono HB2.out.size)
      clear hr hb3 HV
      go_wp2_with fail
      refine (awake_any _).mono ?_
      rintro e wz ⟨rfl, hbz⟩
      have HBz := Lib.hid (HB3.out.trans (hbz.mono HB3.out.size)); clear hbz
      go_wp2_with fail
      go_ret
      exact ⟨rfl, HBz.out⟩

    have hOL : l.length = ts.length := by rw [hl]; exact ordK_len hv _ (Nat.le_refl _)
    have HOR : Hid (Ordd ts l) := by show Ordd ts l; rw [hl]; exact ordK_ordd hv _
    have HAL : Hid (∀ t ∈ ts, t.lab ∈ l) := fun t ht => ordd_all HOR.out hOL ht
    obtain rfl : m1 = n := by have := HTL.out; omega
    have HV := Lib.hid hv
    clear hv hl hOL hml
    have hnn : ((m1 : Int) != (m1 : Int)) = false := by simp
    go_wp2_with fail
    go_loopw [47] (fun i wr => ∃ k : Nat, i = .int .i64 (k : Int) ∧ k ≤ m1 ∧ Hid (Below w2.heap.size w2 wr)) (fun i _ => m1 - (intOf i).toNat)
    case atStart => exact ⟨0, rfl, Nat.zero_le _, Below.refl _ _⟩
    case round =>
      obtain ⟨k, rfl, hk, hbw⟩ := hrel
      have zwr := hbw.out.size
      have HBw : Hid (Below w.heap.size w wr) := HB2.out.trans (hbw.out.mono HB2.out.size)
      by_cases hlt : k < m1
      · have hlz : (k : Int) < (m1 : Int) := by omega
        obtain ⟨bb, off, t, rfl, hbB, ht, y0, y1, y2, y3⟩ := (H0.out.below HBw.out (Nat.le_refl _)).tg hlt
        have HTM := Lib.hid (List.mem_of_getElem? ht)
        obtain ⟨wb, hwb⟩ : ∃ wb, wr.alloc (.cells #[.string t.lab, .int .i64 t.kind, .slice t.dA t.dn t.dc, .slice t.vA t.vn t.vc] 35) = wb := ⟨_, rfl⟩
        have HBb : Hid (Below wr.heap.size wr wb) := by rw [← hwb]; exact (Below.refl _ wr).alloc (Nat.le_refl _) _
        have HKb : Hid (Bk wb wr.heap.size 35 #[.string t.lab, .int .i64 t.kind, .slice t.dA t.dn t.dc, .slice t.vA t.vn t.vc]) := by rw [← hwb]; exact Bk.new wr _ _
        have zwb : wb.heap.size = wr.heap.size + 1 := by rw [← hwb]; simp
        have HB2b : Hid (Below w2.heap.size w2 wb) := hbw.out.trans (HBb.out.mono zwr)
        have HBwb : Hid (Below w.heap.size w wb) := HB2.out.trans (HB2b.out.mono HB2.out.size)
        have HTO : Hid (TgOk wb w.heap.size t) := (HOK.out t HTM.out).below HBwb.out (Nat.le_refl _)
        have HGb := Lib.hid (HG2.out.below HB2b.out HG2.out.lt)
        have HSb : Hid (Sl wb w2.heap.size 1 A1 m1 (strs l)) := HS2.out.below HB2b.out (Nat.le_refl _)
        have HIX : Hid (∀ s, Calls Tryz.prog 28 #[.slice A1 m1 c1, .string s] wb fun e w' => (∃ z : Int, e = .returned (.int .i64 z) ∧ IxR l s z) ∧ w' = wb) := fun s => indexS_any A1 m1 c1 w2.heap.size l s wb HSb.out HM2.out
        have hdl := HTO.out.dlen
        have hdm : t.dn ≤ 12 := by have := (HSM.out t HTM.out).dn; omega
        have HDT := Lib.hid (nxT_deps HV.out HTM.out)
        have HWb := Lib.hid hwb
        have x0 := HKb.out.cell 0; have x2 := HKb.out.cell 2
        simp at x0 x2
        have z0 := x0
        rw [← hwb] at z0
        have v0 := HGb.out.cell 0
        simp at v0
        clear hwb ht hbB
        obtain ⟨lab, kind, dA, dn, dc, deps, vA, vn, vc, vis⟩ := t
        simp only at hdl hdm y0 y1 y2 y3 HWb HKb HTM HTO x0 x2 z0 HDT
        go_wp2_with fail
        rw [HWb.out]
        refine (HIX.out lab).mono ?_
        rintro e w3 ⟨⟨z, rfl, hz⟩, rfl⟩
        obtain ⟨kt, rfl, hkt, hkn⟩ := hz.nat (HAL.out _ HTM.out)
        have HKT := Lib.hid hkt
        have HIL : Hid (∀ d z, IxR l d z → d ∈ l.take kt → ∃ i : Nat, z = (i : Int) ∧ i < kt) := fun d z h hd => h.lt hd
        have HPD : Hid (∀ d ∈ deps, d ∈ l.take kt) := fun d hd => HOR.out.aft kt lab hkt d (by rw [HDT.out]; exact hd)
        clear hkt hkn hz y0 y1 y2 y3 z0
        have hk0 : ¬ (kt : Int) < 0 := by omega
        go_wp2_with fail
        obtain ⟨wb, hww⟩ : ∃ W, W = w3 := ⟨_, rfl⟩
        subst hww
        obtain ⟨wo, hwo⟩ : ∃ wo, wo = wr := ⟨_, rfl⟩
        subst hwo
        go_loopw [60] (fun i wr => ∃ j : Nat, i = .int .i64 (j : Int) ∧ j ≤ dn ∧ wr = wb) (fun i _ => dn - (intOf i).toNat)
        case atStart => exact ⟨0, rfl, Nat.zero_le _, rfl⟩
        case round =>
          obtain ⟨j, rfl, hj, rfl⟩ := hrel
          by_cases hjl : j < dn
          · obtain ⟨db, doff, d, hde, hdb, hd, z0⟩ := HTO.out.d.str_at hjl
            simp only at hde
            subst hde
            have hjz : (j : Int) < (dn : Int) := by omega
            have HD := Lib.hid (HPD.out d (List.mem_of_getElem? hd))
            have HID := Lib.hid (HIX.out d)
            clear hd
            go_wp2_with fail
            refine HID.out.mono ?_
            rintro e w4 ⟨⟨z, rfl, hz⟩, rfl⟩
            obtain ⟨i, rfl, hi⟩ := HIL.out d z hz HD.out
            have hi0 : ¬ (i : Int) < 0 := by omega
            have hi1 : ¬ (kt : Int) ≤ (i : Int) := by omega
            have hi2 : ¬ (i : Int) ≥ (kt : Int) := by omega
            clear hz
            go_wp2_with fail
            go_roundw
            case rel => exact ⟨j + 1, by go_num, hjl, by first | trivial | rfl⟩
            case measure => simp [intOf]; omega
          · have hjz : ¬ (j : Int) < (dn : Int) := by omega
            have hls : lab.size ≤ maxLen := HTO.out.ls
            have HDP := Lib.hid (deps_any _ m1 c w.heap.size ts lab wr (H0.out.below HBwb.out (Nat.le_refl _)) (fun t ht => (HOK.out t ht).below HBwb.out (Nat.le_refl _)) HBwb.out.size hnc hcm hls)
            go_wp2_with fail
            refine HDP.out.mono ?_
            rintro e w5 ⟨A5, m5, c5, l5, e5, rfl, hs5, hm5, hc5, hb5, hr5⟩
            obtain ⟨rfl, hrx⟩ : e5 = 0 ∧ ∀ x ∈ l5, Rch (nxT ts) lab x := by
              rcases hr5 with ⟨h, _⟩ | ⟨_, h, _⟩ | ⟨_, _, h1, _, h2⟩
              · exact absurd HV.out h
              · have : isT ts lab = true := (isT_iff ts lab).2 (List.mem_map_of_mem HTM.out)
                rw [this] at h; cases h
              · exact ⟨h1, fun x hx => (h2 x).1 hx⟩
            have HPR : Hid (∀ d ∈ l5, d ∈ l.take kt) := fun d hd => by
              obtain ⟨q, hq⟩ := hrx d hd
              exact HOR.out.rch HKT.out hq
            have HB25 : Hid (Below w2.heap.size w2 w5) := HB2b.out.trans (hb5.mono (by omega))
            have HS5 := Lib.hid hs5
            have HIX5 : Hid (∀ s, Calls Tryz.prog 28 #[.slice A1 m1 c1, .string s] w5 fun e w' => (∃ z : Int, e = .returned (.int .i64 z) ∧ IxR l s z) ∧ w' = w5) := fun s => indexS_any A1 m1 c1 w2.heap.size l s w5 (HS2.out.below HB25.out (Nat.le_refl _)) HM2.out
            have hm5x : m5 ≤ 9223372036854775807 := by have := Nat.le_trans hm5 hc5; unfold maxLen at this; exact this
            clear hs5 hm5 hc5 hb5 hr5 hrx HDP HIX
            go_wp2_with fail
            obtain ⟨wb2, hww⟩ : ∃ W, W = wr := ⟨_, rfl⟩
            subst hww
            go_loopw [86] (fun i wr => ∃ j : Nat, i = .int .i64 (j : Int) ∧ j ≤ m5 ∧ wr = w5) (fun i _ => m5 - (intOf i).toNat)
            case atStart => exact ⟨0, rfl, Nat.zero_le _, rfl⟩
            case round =>
              obtain ⟨p, rfl, hp, rfl⟩ := hrel
              by_cases hpl : p < m5
              · obtain ⟨db, doff, d, hde, hdb, hd, z0⟩ := HS5.out.str_at hpl
                subst hde
                have hpz : (p : Int) < (m5 : Int) := by omega
                have HD := Lib.hid (HPR.out d (List.mem_of_getElem? hd))
                have HID := Lib.hid (HIX5.out d)
                clear hd
                go_wp2_with fail
                refine HID.out.mono ?_
                rintro e w4 ⟨⟨z, rfl, hz⟩, rfl⟩
                obtain ⟨i, rfl, hi⟩ := HIL.out d z hz HD.out
                have hi0 : ¬ (i : Int) < 0 := by omega
                have hi1 : ¬ (kt : Int) ≤ (i : Int) := by omega
                have hi2 : ¬ (i : Int) ≥ (kt : Int) := by omega
                clear hz
                go_wp2_with fail
                go_roundw
                case rel => exact ⟨p + 1, by go_num, hpl, by first | trivial | rfl⟩
                case measure => simp [intOf]; omega
              · have hpz : ¬ (p : Int) < (m5 : Int) := by omega
                go_wp2_with fail
                go_roundw
                case rel => exact ⟨k + 1, by go_num, hlt, HB25.out⟩
                case measure => simp [intOf]; omega
      · have hlz : ¬ (k : Int) < (m1 : Int) := by omega
        go_wp2_with fail
        refine (awake_any _).mono ?_
        rintro e wz ⟨rfl, hbz⟩
        have HBz := Lib.hid (HBw.out.trans (hbz.mono HBw.out.size)); clear hbz
        go_wp2_with fail
        go_ret
        exact ⟨rfl, HBz.out⟩
end Go.Proofs.YtddlohbhchjjhaaGreatDoor
