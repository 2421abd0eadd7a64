/-
  cordwoodref11.Encode.
-/
import Derived.Test.YtikmiabncbhioaaDoorEnc
import Derived.Deep.RegionHeld3
namespace Go.Proofs.YtikmiabncbhioaaDoor
open Go.RowKit

theorem toL_append (a b : ByteArray) : toL (a ++ b) = toL a ++ toL b := by simp [toL]

set_option maxRecDepth 100000 in
set_option maxHeartbeats 8000000 in
theorem refEncode_any (A : Option Addr) (n c B : Nat) (us : List Upd) (w : World) (h0 : Sl w B 5 A n (flat upC us)) (hB : B ≤ w.heap.size) (hn : n ≤ maxLen) (hs : ∀ u ∈ us, u.1.size ≤ maxLen) (hw : ∀ u ∈ us, WfU u) :
    Calls Tryd.prog 28 #[.slice A n c] w (RetE (encR us) w) := by
  unfold maxLen at hn
  have HL := Lib.hid (h0.len upC_len (by omega))
  have H0 := Lib.hid h0; have HS := Lib.hid hs; have HW := Lib.hid hw
  clear h0 hs hw
  have HR : Hid (∀ r, encR us = r → ∀ e w', RetE r w e w' → RetE (encR us) w e w') := fun r h e w' hh => by rw [h]; exact hh
  have HD : Hid (encR us = if 1000 < us.length then ([], 4) else if errsE us ≠ 0 then ([], errsE us) else (encN us.length ++ encL us, 0)) := rfl
  by_cases hlim : 1000 < n
  · have hli : (1000 : Int) < (n : Int) := by omega
    have hfin : Hid (encR us = ([], 4)) := by show _ = _; rw [HD.out, if_pos (by rw [HL.out]; exact hlim)]
    clear HD
    go_enter Tryd.func28, Tryd.ntmps28
    go_wp2
    go_ret2
    exact HR.out _ hfin.out _ _ ⟨rfl, Below.refl _ _⟩
  · have hli : ¬ (1000 : Int) < (n : Int) := by omega
    have HD2 : Hid (encR us = if errsE us ≠ 0 then ([], errsE us) else (encN n ++ encL us, 0)) := by show _ = _; rw [HD.out, if_neg (by rw [HL.out]; exact hlim), HL.out]
    clear HD
    go_enter Tryd.func28, Tryd.ntmps28
    go_wp2_with fail
    refine (refPutInt_any n (by omega) _).mono ?_
    obtain ⟨p0, hp0⟩ : ∃ p, ofL (encN n) = p := ⟨_, rfl⟩
    rw [hp0]
    have HP0 : Hid (toL p0 = encN n ++ encL (us.take 0)) := by show _ = _; rw [← hp0, List.take_zero]; simp [encL, toL_ofL]
    clear hp0
    rintro e w1 ⟨rfl, hb1⟩
    have HB1 := Lib.hid hb1; clear hb1
    go_wp2
    go_loopw [4, 6] (fun v i wr => ∃ (k : Nat) (p : ByteArray), k ≤ n ∧ i = .int .i64 k ∧ v = .string p ∧ Hid (toL p = encN n ++ encL (us.take k)) ∧ Hid (errsE us = errsE (us.drop k)) ∧ Hid (∀ u ∈ us.take k, properE u = 0) ∧ Hid (Below w.heap.size w wr)) (fun _ i _ => n - (intOf i).toNat)
    case atStart => exact ⟨0, p0, Nat.zero_le _, rfl, rfl, HP0.out, rfl, by simp [Hid], HB1.out⟩
    case round =>
      obtain ⟨k, p, hk, rfl, rfl, hp, hE, hPr, hBel⟩ := hrel
      by_cases hlt : k < n
      · obtain ⟨b, off, u, rfl, hbB, hu, y0, y1, y2, y3, y4⟩ := (H0.out.below hBel.out hB).upd hlt
        have HUk := Lib.hid hu
        have HST := Lib.hid (errs_drop hu)
        have HUS := Lib.hid (HS.out u (List.mem_of_getElem? hu))
        have HWU := Lib.hid (HW.out u (List.mem_of_getElem? hu))
        have hbb : b < w.heap.size := by omega
        clear hu
        obtain ⟨s, ⟨o0, o1⟩, ⟨q0, q1⟩⟩ := u
        have hlz : (k : Int) < (n : Int) := by omega
        go_wp2_with fail
        refine (refProper_any (s, (o0, o1), (q0, q1)) _ HUS.out).mono ?_
        have HPS : Hid (properE (s, (o0, o1), (q0, q1)) = 0 → s.size ≤ 100) := fun h => proper_size h
        generalize hpe : properE (s, (o0, o1), (q0, q1)) = pe at *
        have HPE := Lib.hid hpe
        rintro e w2 ⟨rfl, hb2⟩
        have HB2 := Lib.hid (hBel.out.trans (hb2.mono hBel.out.size))
        have z0 := (bcell hb2 b (off + k * 5) (by have := hBel.out.size; omega)).trans y0; have z1 := (bcell hb2 b (off + k * 5 + 1) (by have := hBel.out.size; omega)).trans y1; have z2 := (bcell hb2 b (off + k * 5 + 2) (by have := hBel.out.size; omega)).trans y2; have z3 := (bcell hb2 b (off + k * 5 + 3) (by have := hBel.out.size; omega)).trans y3; have z4 := (bcell hb2 b (off + k * 5 + 4) (by have := hBel.out.size; omega)).trans y4
        clear hb2 y0 y1 y2 y3 y4 hpe
        by_cases hpz : pe = 0
        · subst hpz
          have hs100 := HPS.out rfl
          have HN : Hid (errsE us = errsE (us.drop (k + 1))) := by show _ = _; rw [hE.out, HST.out]; simp
          have HPN : Hid (∀ u ∈ us.take (k + 1), properE u = 0) := by
            show ∀ u ∈ us.take (k + 1), properE u = 0
            rw [take_snoc HUk.out]
            intro v hv
            rcases List.mem_append.1 hv with hv | hv
            · exact hPr.out v hv
            · rw [List.mem_singleton.1 hv]; exact HPE.out
          have hpl : p.size ≤ 200000 := by
            have h1 := encL_len (us.take k) (fun v hv => proper_size (hPr.out v hv))
            have h2 := encN_len 5 n (by omega)
            rw [size_toL, hp.out, List.length_append]
            rw [List.length_take] at h1
            omega
          go_wp2_with fail
          refine (refPutText_any s (by omega) _).mono ?_
          obtain ⟨t, ht⟩ : ∃ t, ofL (encT (toL s)) = t := ⟨_, rfl⟩
          rw [ht]
          have HTL : Hid (toL t = encT (toL s)) := by show _ = _; rw [← ht]; rfl
          have htl : t.size ≤ 110 := by
            rw [← ht, size_ofL]
            unfold encT
            have h1 := encN_len 0 (toL s).length (by rw [← size_toL]; omega)
            rw [List.length_append, ← size_toL] at *
            omega
          clear ht
          rintro e w3 ⟨rfl, hb3⟩
          have HB3 := Lib.hid (HB2.out.trans (hb3.mono HB2.out.size))
          have hz3 := HB3.out.size
          have y0 := (bcell hb3 b (off + k * 5) (by have := HB2.out.size; omega)).trans z0; have y1 := (bcell hb3 b (off + k * 5 + 1) (by have := HB2.out.size; omega)).trans z1; have y2 := (bcell hb3 b (off + k * 5 + 2) (by have := HB2.out.size; omega)).trans z2; have y3 := (bcell hb3 b (off + k * 5 + 3) (by have := HB2.out.size; omega)).trans z3; have y4 := (bcell hb3 b (off + k * 5 + 4) (by have := HB2.out.size; omega)).trans z4
          clear hb3 z0 z1 z2 z3 z4
          obtain ⟨d1, hd1⟩ : ∃ d, ofL (digB (o0, o1)) = d := ⟨_, rfl⟩
          obtain ⟨d2, hd2⟩ : ∃ d, ofL (digB (q0, q1)) = d := ⟨_, rfl⟩
          have hl1 : d1.size = 16 := by rw [← hd1, size_ofL, digB_len]
          have hl2 : d2.size = 16 := by rw [← hd2, size_ofL, digB_len]
          have HD1 : Hid (ofL (digB (o0, o1)) = d1) := hd1
          have HD2' : Hid (ofL (digB (q0, q1)) = d2) := hd2
          obtain ⟨p1, ha1, hp1⟩ : ∃ p1, (∀ w, (Op.stringOp .add p t).run Tryd.prog w = .ok (.string p1) w) ∧ p1 = p ++ t := ⟨_, fun w => run_string_add_sum w p t (by omega), rfl⟩
          have hz1 : p1.size ≤ 200110 := by rw [hp1, ByteArray.size_append]; omega
          obtain ⟨p2, ha2, hp2⟩ : ∃ p2, (∀ w, (Op.stringOp .add p1 d1).run Tryd.prog w = .ok (.string p2) w) ∧ p2 = p1 ++ d1 := ⟨_, fun w => run_string_add_sum w p1 d1 (by omega), rfl⟩
          have hz2 : p2.size ≤ 200126 := by rw [hp2, ByteArray.size_append]; omega
          obtain ⟨p3, ha3, hp3⟩ : ∃ p3, (∀ w, (Op.stringOp .add p2 d2).run Tryd.prog w = .ok (.string p3) w) ∧ p3 = p2 ++ d2 := ⟨_, fun w => run_string_add_sum w p2 d2 (by omega), rfl⟩
          have HP3 : Hid (toL p3 = encN n ++ encL (us.take (k + 1))) := by
            show _ = _
            rw [hp3, hp2, hp1, toL_append, toL_append, toL_append, hp.out, HTL.out, ← hd1, ← hd2, take_snoc HUk.out, encL_snoc, toL_ofL, toL_ofL]
            simp [encU, List.append_assoc]
          clear hp1 hp2 hp3
          clear hd1 hd2 hl1 hl2
          have hk0 : (0 : Int) ≤ (k : Int) := by omega
          go_wp2_with fail
          go_region_held3 (fun w' => w'.cell? ⟨b, off + k * 5 + 1, none⟩ = some (.int .u64 o0) ∧ w'.cell? ⟨b, off + k * 5 + 2, none⟩ = some (.int .u64 o1) ∧ w'.cell? ⟨b, off + k * 5 + 3, none⟩ = some (.int .u64 q0) ∧ w'.cell? ⟨b, off + k * 5 + 4, none⟩ = some (.int .u64 q1))
            (first | exact ⟨y1, y2, y3, y4⟩ | exact S4.out | exact S5.out)
            (first
              | (go_at_call 48; have _t := HD1; refine (refBytes_any (o0, o1) HWU.out.1 _).mono ?_; rintro e w4 ⟨rfl, hb4⟩; rw [HD1.out]
                 have S4 : Hid (w4.cell? ⟨b, off + k * 5 + 1, none⟩ = some (.int .u64 o0) ∧ w4.cell? ⟨b, off + k * 5 + 2, none⟩ = some (.int .u64 o1) ∧ w4.cell? ⟨b, off + k * 5 + 3, none⟩ = some (.int .u64 q0) ∧ w4.cell? ⟨b, off + k * 5 + 4, none⟩ = some (.int .u64 q1)) :=
                   ⟨(bcell hb4 b _ (by show b < w3.heap.size; omega)).trans y1, (bcell hb4 b _ (by show b < w3.heap.size; omega)).trans y2, (bcell hb4 b _ (by show b < w3.heap.size; omega)).trans y3, (bcell hb4 b _ (by show b < w3.heap.size; omega)).trans y4⟩
                 have HB4 := Lib.hid (HB3.out.drew.trans (hb4.mono (by show _ ≤ w3.heap.size; omega))); have hz4 : w3.heap.size ≤ w4.heap.size := hb4.size
                 clear hb4 HD1)
              | (go_at_call 48; refine (refBytes_any (q0, q1) HWU.out.2 _).mono ?_; rintro e w5 ⟨rfl, hb5⟩; rw [HD2'.out]
                 have S5 : Hid (w5.cell? ⟨b, off + k * 5 + 1, none⟩ = some (.int .u64 o0) ∧ w5.cell? ⟨b, off + k * 5 + 2, none⟩ = some (.int .u64 o1) ∧ w5.cell? ⟨b, off + k * 5 + 3, none⟩ = some (.int .u64 q0) ∧ w5.cell? ⟨b, off + k * 5 + 4, none⟩ = some (.int .u64 q1)) :=
                   ⟨(bcell hb5 b _ (by omega)).trans S4.out.1, (bcell hb5 b _ (by omega)).trans S4.out.2.1, (bcell hb5 b _ (by omega)).trans S4.out.2.2.1, (bcell hb5 b _ (by omega)).trans S4.out.2.2.2⟩
                 have HB5 := Lib.hid (HB4.out.trans (hb5.mono (by omega)))
                 clear hb5))
          go_wp2
          go_roundw
          case rel => exact ⟨k + 1, p3, by omega, by go_num, rfl, HP3.out, HN.out, HPN.out, HB5.out⟩
          case measure => simp [intOf]; omega
        · have hne : (pe != 0) = true := by rw [bne_iff_ne]; exact hpz
          have hfin : Hid (encR us = ([], pe)) := by
            show _ = _
            have e1 : errsE us = pe := by rw [hE.out, HST.out, if_pos hpz]
            rw [HD2.out, e1, if_pos hpz]
          clear hpz
          go_wp2
          go_ret2
          exact HR.out _ hfin.out _ _ ⟨rfl, HB2.out⟩
      · have hlz : ¬ (k : Int) < (n : Int) := by omega
        have hE0 : errsE us = 0 := by rw [hE.out, List.drop_of_length_le (by rw [HL.out]; omega)]; rfl
        have hfin : Hid (encR us = (toL p, 0)) := by
          show _ = _
          rw [HD2.out, hE0, hp.out, List.take_of_length_le (by rw [HL.out]; omega)]; simp
        have HO := Lib.hid (ofL_toL p)
        clear hE hE0 HD2 hp
        go_wp2
        go_ret2
        exact HR.out _ hfin.out _ _ ⟨by simp only [HO.out]; rfl, hBel.out⟩
end Go.Proofs.YtikmiabncbhioaaDoor
