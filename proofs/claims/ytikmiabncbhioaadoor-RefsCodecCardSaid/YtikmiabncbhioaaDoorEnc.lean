/-
  refs.Encode.
-/
import Derived.Test.YtikmiabncbhioaaDoorRByt
import Derived.Test.YtikmiabncbhioaaDoorPut
import Derived.Test.YtikmiabncbhioaaDoorSmall
namespace Go.Proofs.YtikmiabncbhioaaDoor
open Go.RowKit

theorem proper_size {u : Upd} (h : properE u = 0) : u.1.size ≤ 100 := by
  unfold properE at h
  by_cases hn : nameB u.1 = true
  · rcases Nat.lt_or_ge 100 u.1.size with hl | hl
    · rw [name_long u.1 (by omega)] at hn; cases hn
    · exact hl
  · rw [if_neg hn] at h; cases h
theorem encU_len {u : Upd} (h : u.1.size ≤ 100) : (encU u).length ≤ 138 := by
  have h1 := encN_len 0 u.1.size (by omega)
  unfold encU encT
  rw [← size_toL]
  simp [digB_len, ← size_toL]; omega
theorem encL_len : ∀ (us : List Upd), (∀ u ∈ us, u.1.size ≤ 100) → (encL us).length ≤ 138 * us.length
  | [], _ => by simp [encL]
  | u :: us, h => by
    have h1 := encU_len (h u (by simp))
    have h2 := encL_len us (fun v hv => h v (by simp [hv]))
    have e : encL (u :: us) = encU u ++ encL us := rfl
    rw [e, List.length_append, List.length_cons]; omega
theorem encL_snoc (us : List Upd) (u : Upd) : encL (us ++ [u]) = encL us ++ encU u := by simp [encL]
theorem errs_drop {us : List Upd} {k : Nat} {u : Upd} (h : us[k]? = some u) : errsE (us.drop k) = if properE u ≠ 0 then properE u else errsE (us.drop (k + 1)) := by
  have hl := List.getElem?_eq_some_iff.1 h
  rw [List.drop_eq_getElem_cons hl.1, errsE, hl.2]

theorem src_str (s : ByteArray) (w : World) : Src Tryd.prog 1 9 (.string s) s.size (bc (toL s)) w := by
  have h := Src.ofString (P := Tryd.prog) w Tryd.underlying9 s
  exact h

def RetE (r : Bytes × Int) (w : World) (e : Ending) (w' : World) : Prop := e = .returned (.tuple #[.string (ofL r.1), .int .i64 r.2]) ∧ Below w.heap.size w w'

set_option maxRecDepth 100000 in
set_option maxHeartbeats 4000000 in
theorem encode_any (A : Option Addr) (n c B : Nat) (us : List Upd) (w : World) (h0 : Sl w B 5 A n (flat upC us)) (hB : B ≤ w.heap.size) (hn : n ≤ maxLen) (hs : ∀ u ∈ us, u.1.size ≤ maxLen) (hw : ∀ u ∈ us, WfU u) :
    Calls Tryd.prog 27 #[.slice A n c] w (RetE (encR us) w) := by
  unfold maxLen at hn
  have HL := Lib.hid (h0.len upC_len (by omega))
  have H0 := Lib.hid h0; have HS := Lib.hid hs; have HW := Lib.hid hw
  clear h0 hs hw
  have HR : Hid (∀ r, encR us = r → ∀ e w', RetE r w e w' → RetE (encR us) w e w') := fun r h e w' hh => by rw [h]; exact hh
  have HD : Hid (encR us = if 1000 < us.length then ([], 4) else if errsE us ≠ 0 then ([], errsE us) else (encN us.length ++ encL us, 0)) := rfl
  obtain ⟨i0, hi, hz0, hz1, hz2⟩ := info_parts infoByte
  have Hi := Lib.hid hi; have Hz0 := Lib.hid hz0; have Hz1 := Lib.hid hz1; have Hz2 := Lib.hid hz2
  clear hi hz0 hz1 hz2
  by_cases hlim : 1000 < n
  · have hli : (1000 : Int) < (n : Int) := by omega
    have hfin : Hid (encR us = ([], 4)) := by show _ = _; rw [HD.out, if_pos (by rw [HL.out]; exact hlim)]
    clear HD
    go_enter Tryd.func27, Tryd.ntmps27
    go_wp2
    go_ret2
    exact HR.out _ hfin.out _ _ ⟨rfl, Below.refl _ _⟩
  · have hli : ¬ (1000 : Int) < (n : Int) := by omega
    have HD2 : Hid (encR us = if errsE us ≠ 0 then ([], errsE us) else (encN us.length ++ encL us, 0)) := by show _ = _; rw [HD.out, if_neg (by rw [HL.out]; exact hlim)]
    clear HD
    go_enter Tryd.func27, Tryd.ntmps27
    go_wp2
    go_loopw [19] (fun i wr => ∃ k : Nat, k ≤ n ∧ i = .int .i64 k ∧ Hid (errsE us = errsE (us.drop k)) ∧ Hid (Below w.heap.size w wr)) (fun i _ => n - (intOf i).toNat)
    case atStart => exact ⟨0, Nat.zero_le _, rfl, rfl, Below.refl _ _⟩
    case round =>
      obtain ⟨k, hk, rfl, hE, hBel⟩ := hrel
      by_cases hlt : k < n
      · obtain ⟨b, off, u, rfl, hbB, hu, y0, y1, y2, y3, y4⟩ := (H0.out.below hBel.out hB).upd hlt
        have HST := Lib.hid (errs_drop hu)
        have HUS := Lib.hid (HS.out u (List.mem_of_getElem? hu))
        clear hu
        obtain ⟨s, ⟨o0, o1⟩, ⟨q0, q1⟩⟩ := u
        have hlz : (k : Int) < (n : Int) := by omega
        go_wp2_with fail
        refine (proper_any (s, (o0, o1), (q0, q1)) _ HUS.out).mono ?_
        generalize hpe : properE (s, (o0, o1), (q0, q1)) = pe at *
        rintro e w1 ⟨rfl, hb1⟩
        have HB1 : Hid (Below w.heap.size w w1) := (hBel.out.alloc hBel.out.size _).trans (hb1.mono (by have := hBel.out.size; simp; omega))
        clear hb1 y0 y1 y2 y3 y4 hpe
        by_cases hp : pe = 0
        · subst hp
          have HN : Hid (errsE us = errsE (us.drop (k + 1))) := by show _ = _; rw [hE.out, HST.out]; simp
          go_wp2
          go_roundw
          case rel => exact ⟨k + 1, by omega, by go_num, HN.out, HB1.out⟩
          case measure => simp [intOf]; omega
        · have hne : (pe != 0) = true := by rw [bne_iff_ne]; exact hp
          have hfin : Hid (encR us = ([], pe)) := by
            show _ = _
            have e1 : errsE us = pe := by rw [hE.out, HST.out, if_pos hp]
            rw [HD2.out, e1, if_pos hp]
          clear hp
          go_wp2
          go_ret2
          exact HR.out _ hfin.out _ _ ⟨rfl, HB1.out⟩
      · have hlz : ¬ (k : Int) < (n : Int) := by omega
        have hE0 : errsE us = 0 := by rw [hE.out, List.drop_of_length_le (by rw [HL.out]; omega)]; rfl
        have hfin : Hid (encR us = (encN n ++ encL us, 0)) := by
          show _ = _
          rw [HD2.out, hE0, HL.out]; simp
        have HP := Lib.hid ((errs_zero us).1 hE0)
        clear hE hE0 HD2
        go_wp2_with fail
        refine (putInt_any n (by omega) _).mono ?_
        rintro e w2 ⟨rfl, hb2⟩
        have HB2 := Lib.hid (hBel.out.trans (hb2.mono hBel.out.size))
        clear hb2
        have hl6 : (encN n).length ≤ 6 := encN_len 5 n (by omega)
        obtain ⟨A1, c1, w3, hrun, hT, hb3⟩ := run_text (P := Tryd.prog) 9 70 5 (ofL (encN n)) Tryd.underlying9 Tryd.underlying70 Tryd.underlying5 (by rw [size_ofL]; unfold maxLen; omega) w2
        have HT := Lib.hid hT; have HB3 := Lib.hid hb3
        have hsz : (ofL (encN n)).size = (encN n).length := rfl
        have HM : Hid ((encN n).length = (encN n).length + (encL (us.take 0)).length) := by show _ = _; simp [encL]
        rw [hsz] at hrun HT
        rw [toL_ofL] at HT
        have hz3 : w2.heap.size ≤ w3.heap.size := hb3.size
        clear hsz hT hb3
        go_wp2
        obtain ⟨wo, rfl⟩ : ∃ wo : World, wo = wr := ⟨_, rfl⟩
        go_loopw [9, 39] (fun v i wr => ∃ (k : Nat) (A' : Option Addr) (m c' : Nat), k ≤ n ∧ i = .int .i64 k ∧ v = .slice A' m c' ∧ Hid (m = (encN n).length + (encL (us.take k)).length) ∧ Hid (Txt wr w2.heap.size wr.heap.size A' m c' (encN n ++ encL (us.take k))) ∧ Hid (Below w2.heap.size w2 wr) ∧ w2.heap.size ≤ wr.heap.size) (fun _ i _ => n - (intOf i).toNat)
        case atStart => exact ⟨0, A1, _, c1, Nat.zero_le _, rfl, rfl, HM.out, by show Txt _ _ _ _ _ _ _; rw [List.take_zero, show encL [] = [] from rfl, List.append_nil]; exact HT.out.avoid (Nat.le_refl _), HB3.out, hz3⟩
        case round =>
          clear HT HB3 hrun HM hz3
          obtain ⟨k, A', m, c', hk, rfl, rfl, hm, hT, hB4, hwz⟩ := hrel
          have HB4 := Lib.hid (HB2.out.trans (hB4.out.mono HB2.out.size))
          by_cases hlt : k < n
          · obtain ⟨b, off, u, rfl, hbB, hu, y0, y1, y2, y3, y4⟩ := (H0.out.below HB4.out hB).upd hlt
            have hmem := List.mem_of_getElem? hu
            have hu100 := proper_size (HP.out u hmem)
            have HWU := Lib.hid (HW.out u hmem)
            have HSN : Hid (encN n ++ encL (us.take (k + 1)) = encN n ++ encL (us.take k) ++ encU u) := by
              show _ = _; rw [take_snoc hu, encL_snoc, List.append_assoc]
            have hml : m ≤ 200000 := by
              have h1 := encL_len (us.take k) (fun v hv => proper_size (HP.out v (List.mem_of_mem_take hv)))
              have h2 := hm.out
              rw [List.length_take] at h1
              omega
            have HUL : Hid ((encL (us.take (k + 1))).length = (encL (us.take k)).length + (encU u).length) := by
              show _ = _; rw [take_snoc hu, encL_snoc, List.length_append]
            clear hu hmem
            obtain ⟨s, ⟨o0, o1⟩, ⟨q0, q1⟩⟩ := u
            simp only at hu100
            have hlz : (k : Int) < (n : Int) := by omega
            have hwz' := hwz
            have hx0 : Bk (wr.alloc (.cells #[.string s, .int .u64 o0, .int .u64 o1, .int .u64 q0, .int .u64 q1] 30)) wr.heap.size 30 #[.string s, .int .u64 o0, .int .u64 o1, .int .u64 q0, .int .u64 q1] := Bk.new wr 30 _
            have HX0 := Lib.hid hx0; clear hx0
            go_wp2_with fail
            refine (putText_any s (by omega) _).mono ?_
            obtain ⟨t, ht⟩ : ∃ t, ofL (encT (toL s)) = t := ⟨_, rfl⟩
            rw [ht]
            have HTL : Hid (toL t = encT (toL s)) := by show _ = _; rw [← ht]; rfl
            have htl : t.size ≤ 110 := by
              rw [← ht, size_ofL]
              unfold encT
              have h1 := encN_len 0 (toL s).length (by rw [← size_toL]; omega)
              rw [List.length_append, ← size_toL] at *
              omega
            clear ht
            rintro e w4 ⟨rfl, hb4⟩
            have hz4 : wr.heap.size + 1 ≤ w4.heap.size := by have := hb4.size; simp at this; omega
            have K4 := Lib.hid (HX0.out.below hb4 (by simp))
            have T4 := Lib.hid ((hT.out.below ((Below.refl _ wr).alloc (Nat.le_refl _) _)).below hb4)
            have B4 := Lib.hid ((hB4.out.alloc hwz (.cells #[.string s, .int .u64 o0, .int .u64 o1, .int .u64 q0, .int .u64 q1] 30)).trans (hb4.mono (by simp; omega)))
            clear hb4 y0 y1 y2 y3 y4
            go_wp2_with (at_builtin; refine halt_ ?_)
            refine unhalt ?_
            refine wpList_append_txt (base := w2.heap.size) (av := wr.heap.size) rfl (.tmp 49) (.tmp 50) 70 9 rfl 5 i0 Tryd.underlying70 Hi.out Hz0.out Hz1.out Hz2.out A' m c' (encN n ++ encL (us.take k)) rfl T4.out (.string t) t.size (toL t) rfl (src_str t _) (by omega) (by omega) (by omega) ?_
            intro A5 c5 w5 a5 hb5 hv5
            have T5 := Lib.hid a5; have B5 := Lib.hid (B4.out.trans hb5)
            have hz5 := hb5.size
            have K5 : Hid (Bk w5 wr.heap.size 30 #[.string s, .int .u64 o0, .int .u64 o1, .int .u64 q0, .int .u64 q1]) := hv5.trans K4.out
            clear a5 hb5 hv5 T4 B4 K4
            have u1 := K5.out.cell 1; have u2 := K5.out.cell 2
            simp at u1 u2
            go_wp2_with fail
            refine (appendDigest_any (o0, o1) HWU.out.1 A5 _ c5 w2.heap.size wr.heap.size _ _ T5.out (by omega) (by omega) (by omega)).mono ?_
            rintro e w6 ⟨A6, c6, rfl, a6, hb6, hv6⟩
            have T6 := Lib.hid a6; have B6 := Lib.hid (B5.out.trans hb6)
            have hz6 := hb6.size
            have K6 : Hid (Bk w6 wr.heap.size 30 #[.string s, .int .u64 o0, .int .u64 o1, .int .u64 q0, .int .u64 q1]) := hv6.trans K5.out
            clear a6 hb6 hv6 u1 u2 T5 B5 K5
            have u3 := K6.out.cell 3; have u4 := K6.out.cell 4
            simp at u3 u4
            go_wp2_with fail
            refine (appendDigest_any (q0, q1) HWU.out.2 A6 _ c6 w2.heap.size wr.heap.size _ _ T6.out (by omega) (by omega) (by omega)).mono ?_
            rintro e w7 ⟨A7, c7, rfl, a7, hb7, hv7⟩
            have hz7 := hb7.size
            have HB7 := Lib.hid (B6.out.trans hb7)
            have e1 : encN n ++ encL (us.take k) ++ toL t ++ digB (o0, o1) ++ digB (q0, q1) = encN n ++ encL (us.take (k + 1)) := by
              rw [HSN.out, HTL.out]; simp [encU, List.append_assoc]
            rw [e1] at a7
            have T7 := Lib.hid (a7.avoid (Nat.le_refl _))
            have HM7 : Hid (m + t.size + 16 + 16 = (encN n).length + (encL (us.take (k + 1))).length) := by
              show _ = _
              have h1 := hm.out
              have h2 := HUL.out
              have h3 : (encU (s, (o0, o1), (q0, q1))).length = t.size + 32 := by
                rw [size_toL, HTL.out]; simp [encU, digB_len]
              omega
            clear a7 hb7 hv7 u3 u4 T6 B6 K6 e1
            go_wp2
            go_roundw
            case rel => exact ⟨k + 1, A7, _, c7, by omega, by go_num, rfl, HM7.out, T7.out, HB7.out, by omega⟩
            case measure => simp [intOf]; omega
          · have hlz : ¬ (k : Int) < (n : Int) := by omega
            have hT2 := hT.out
            rw [List.take_of_length_le (by rw [HL.out]; omega)] at hT2
            have hconv := hT2.run_string (P := Tryd.prog) 70 9 5 Tryd.underlying70 Tryd.underlying5 Tryd.underlying9
            clear hT2 hT
            go_wp2
            go_ret2
            exact HR.out _ hfin.out _ _ ⟨rfl, HB4.out⟩
end Go.Proofs.YtikmiabncbhioaaDoor
