/-
  Great, get, SameRefs, SameUpdates, Same, slices.Equal on refs.
-/
import Derived.Test.YtikmiabncbhioaaDoorSmall
namespace Go.Proofs.YtikmiabncbhioaaDoor
open Go.RowKit

def greatB (rs : List Rf) (us : List Upd) : Bool := decide (12 < rs.length) || manyB us

set_option maxHeartbeats 400000 in
theorem great_any (A0 A1 : Option Addr) (n0 c0 n1 c1 B : Nat) (rs : List Rf) (us : List Upd) (w : World) (h0 : Sl w B 3 A0 n0 (flat rfC rs)) (h1 : Sl w B 5 A1 n1 (flat upC us)) (hB : B ≤ w.heap.size) (m1 : n1 ≤ maxLen) :
    Calls Tryd.prog 11 #[.agg #[.slice A0 n0 c0, .slice A1 n1 c1]] w fun e w' => e = .returned (.bool (greatB rs us)) ∧ Below w.heap.size w w' := by
  have HL := Lib.hid (h0.len rfC_len (by omega))
  have HS := Lib.hid (h1.alloc hB (.cells #[.slice A0 n0 c0, .slice A1 n1 c1] 25)); clear h0 h1
  have HM := Lib.hid m1; clear m1
  have hM : Hid (greatB rs us = (decide (12 < rs.length) || manyB us)) := rfl
  generalize greatB rs us = mb at *
  have HB := Lib.hid ((Below.refl w.heap.size w).alloc (Nat.le_refl _) (.cells #[.slice A0 n0 c0, .slice A1 n1 c1] 25))
  by_cases hc : 12 < n0
  · go_enter Tryd.func11, Tryd.ntmps11
    go_wp2_with fail
    go_ret
    exact ⟨ret_bool (by rw [hM.out, HL.out, decide_eq_true hc]; rfl), HB.out⟩
  · have hd : decide ((12 : Int) < (n0 : Int)) = false := by simp; omega
    go_enter Tryd.func11, Tryd.ntmps11
    go_wp2_with fail
    refine (many_any A1 n1 c1 B us _ HS.out HM.out).mono ?_
    rintro e w1 ⟨rfl, rfl⟩
    go_wp2_with fail
    go_ret
    exact ⟨ret_bool (by rw [hM.out, HL.out, decide_eq_false hc]; rfl), HB.out⟩

set_option maxHeartbeats 1000000 in
theorem sameRefs_any (A0 A1 : Option Addr) (n0 c0 n1 c1 B : Nat) (rs qs : List Rf) (w : World) (h0 : Sl w B 3 A0 n0 (flat rfC rs)) (h1 : Sl w B 3 A1 n1 (flat rfC qs)) (m0 : n0 ≤ maxLen) :
    Calls Tryd.prog 19 #[.slice A0 n0 c0, .slice A1 n1 c1] w fun e w' => e = .returned (.bool (decide (rs = qs))) ∧ ∃ k, w' = w.drewN k := by
  unfold maxLen at m0
  have HL0 := Lib.hid (h0.len rfC_len (by omega))
  have HL1 := Lib.hid (h1.len rfC_len (by omega))
  have H0 := Lib.hid h0; have H1 := Lib.hid h1; clear h0 h1
  have hM : Hid (decide (rs = qs) = true ↔ rs = qs) := decide_eq_true_iff
  generalize decide (rs = qs) = mb at *
  by_cases hn : n0 = n1
  · subst hn
    go_enter Tryd.func19, Tryd.ntmps19
    go_wp2
    go_loopw [5] (fun i wr => ∃ k nq : Nat, k ≤ n0 ∧ i = .int .i64 k ∧ wr = w.drewN nq ∧ Hid (rs.take k = qs.take k)) (fun i _ => n0 - (intOf i).toNat)
    case atStart => exact ⟨0, 0, Nat.zero_le _, rfl, rfl, rfl⟩
    case round =>
      obtain ⟨k, nq, hk, rfl, rfl, heq⟩ := hrel
      by_cases hlt : k < n0
      · obtain ⟨b0, o0, r, rfl, _, hr, x0, x1, x2⟩ := H0.out.ref hlt
        obtain ⟨b1, o1, q, rfl, _, hq, y0, y1, y2⟩ := H1.out.ref hlt
        have HR := Lib.hid hr; have HQ := Lib.hid hq; clear hr hq
        have hlz : (k : Int) < (n0 : Int) := by omega
        by_cases e : r = q
        · have t1 : (r.1.toList == q.1.toList && (r.2.1 == q.2.1 && r.2.2 == q.2.2)) = true := by rw [e]; simp
          have HE := Lib.hid e; clear e
          have hnx : Hid (rs.take (k + 1) = qs.take (k + 1)) := by
            show _ = _
            rw [take_snoc HR.out, take_snoc HQ.out, heq.out, HE.out]
          go_wp2
          go_quiet (fail)
          go_wp2
          go_roundw
          case rel => exact ⟨k + 1, _, by omega, by go_num, rfl, hnx⟩
          case measure => simp [intOf]; omega
        · have t1 : (r.1.toList == q.1.toList && (r.2.1 == q.2.1 && r.2.2 == q.2.2)) = false := by
            rw [Bool.eq_false_iff]; intro hh
            simp only [Bool.and_eq_true, beq_iff_eq, ByteArray.toList_eq] at hh
            apply e
            exact Prod.ext (data_inj hh.1) (Prod.ext hh.2.1 hh.2.2)
          have HE := Lib.hid e; clear e
          go_wp2
          go_quiet (fail)
          go_wp2
          go_ret
          refine ⟨ret_bool ?_, ⟨_, World.drewN_drewN _ _ _⟩⟩
          symm
          rw [Bool.eq_false_iff]
          intro hh
          have := hM.out.1 hh
          subst this
          exact HE.out (Option.some.inj (HR.out.symm.trans HQ.out))
      · have hall : Hid (mb = true) := by
          have := heq.out
          rw [List.take_of_length_le (by rw [HL0.out]; omega), List.take_of_length_le (by rw [HL1.out]; omega)] at this
          exact hM.out.2 this
        go_wp2
        go_ret
        exact ⟨ret_bool hall.out.symm, _, rfl⟩
  · have hne : ((n0 : Int) != (n1 : Int)) = true := by rw [bne_iff_ne]; omega
    go_enter Tryd.func19, Tryd.ntmps19
    go_wp2
    go_ret
    refine ⟨ret_bool ?_, 0, rfl⟩
    symm
    rw [Bool.eq_false_iff]
    intro hh
    have := hM.out.1 hh
    subst this
    exact hn (HL0.out.symm.trans HL1.out)

set_option maxHeartbeats 1000000 in
theorem sameUpds_any (A0 A1 : Option Addr) (n0 c0 n1 c1 B : Nat) (rs qs : List Upd) (w : World) (h0 : Sl w B 5 A0 n0 (flat upC rs)) (h1 : Sl w B 5 A1 n1 (flat upC qs)) (m0 : n0 ≤ maxLen) :
    Calls Tryd.prog 21 #[.slice A0 n0 c0, .slice A1 n1 c1] w fun e w' => e = .returned (.bool (decide (rs = qs))) ∧ ∃ k, w' = w.drewN k := by
  unfold maxLen at m0
  have HL0 := Lib.hid (h0.len upC_len (by omega))
  have HL1 := Lib.hid (h1.len upC_len (by omega))
  have H0 := Lib.hid h0; have H1 := Lib.hid h1; clear h0 h1
  have hM : Hid (decide (rs = qs) = true ↔ rs = qs) := decide_eq_true_iff
  generalize decide (rs = qs) = mb at *
  by_cases hn : n0 = n1
  · subst hn
    go_enter Tryd.func21, Tryd.ntmps21
    go_wp2
    go_loopw [5] (fun i wr => ∃ k nq : Nat, k ≤ n0 ∧ i = .int .i64 k ∧ wr = w.drewN nq ∧ Hid (rs.take k = qs.take k)) (fun i _ => n0 - (intOf i).toNat)
    case atStart => exact ⟨0, 0, Nat.zero_le _, rfl, rfl, rfl⟩
    case round =>
      obtain ⟨k, nq, hk, rfl, rfl, heq⟩ := hrel
      by_cases hlt : k < n0
      · obtain ⟨b0, o0, r, rfl, _, hr, x0, x1, x2, x3, x4⟩ := H0.out.upd hlt
        obtain ⟨b1, o1, q, rfl, _, hq, y0, y1, y2, y3, y4⟩ := H1.out.upd hlt
        have HR := Lib.hid hr; have HQ := Lib.hid hq; clear hr hq
        have hlz : (k : Int) < (n0 : Int) := by omega
        by_cases e : r = q
        · have t1 : (r.1.toList == q.1.toList && (r.2.1.1 == q.2.1.1 && r.2.1.2 == q.2.1.2) && (r.2.2.1 == q.2.2.1 && r.2.2.2 == q.2.2.2)) = true := by rw [e]; simp
          have HE := Lib.hid e; clear e
          have hnx : Hid (rs.take (k + 1) = qs.take (k + 1)) := by
            show _ = _
            rw [take_snoc HR.out, take_snoc HQ.out, heq.out, HE.out]
          go_wp2
          go_quiet (fail)
          go_wp2
          go_roundw
          case rel => exact ⟨k + 1, _, by omega, by go_num, rfl, hnx⟩
          case measure => simp [intOf]; omega
        · have t1 : (r.1.toList == q.1.toList && (r.2.1.1 == q.2.1.1 && r.2.1.2 == q.2.1.2) && (r.2.2.1 == q.2.2.1 && r.2.2.2 == q.2.2.2)) = false := by
            rw [Bool.eq_false_iff]; intro hh
            simp only [Bool.and_eq_true, beq_iff_eq, ByteArray.toList_eq] at hh
            apply e
            exact Prod.ext (data_inj hh.1.1) (Prod.ext (Prod.ext hh.1.2.1 hh.1.2.2) (Prod.ext hh.2.1 hh.2.2))
          have HE := Lib.hid e; clear e
          go_wp2
          go_quiet (fail)
          go_wp2
          go_ret
          refine ⟨ret_bool ?_, ⟨_, World.drewN_drewN _ _ _⟩⟩
          symm
          rw [Bool.eq_false_iff]
          intro hh
          have := hM.out.1 hh
          subst this
          exact HE.out (Option.some.inj (HR.out.symm.trans HQ.out))
      · have hall : Hid (mb = true) := by
          have := heq.out
          rw [List.take_of_length_le (by rw [HL0.out]; omega), List.take_of_length_le (by rw [HL1.out]; omega)] at this
          exact hM.out.2 this
        go_wp2
        go_ret
        exact ⟨ret_bool hall.out.symm, _, rfl⟩
  · have hne : ((n0 : Int) != (n1 : Int)) = true := by rw [bne_iff_ne]; omega
    go_enter Tryd.func21, Tryd.ntmps21
    go_wp2
    go_ret
    refine ⟨ret_bool ?_, 0, rfl⟩
    symm
    rw [Bool.eq_false_iff]
    intro hh
    have := hM.out.1 hh
    subst this
    exact hn (HL0.out.symm.trans HL1.out)

set_option maxHeartbeats 1000000 in
theorem slEqual_any (A0 A1 : Option Addr) (n0 c0 n1 c1 B : Nat) (rs qs : List Rf) (w : World) (h0 : Sl w B 3 A0 n0 (flat rfC rs)) (h1 : Sl w B 3 A1 n1 (flat rfC qs)) (m0 : n0 ≤ maxLen) :
    Calls Tryd.prog 62 #[.slice A0 n0 c0, .slice A1 n1 c1] w fun e w' => e = .returned (.bool (decide (rs = qs))) ∧ ∃ k, w' = w.drewN k := by
  unfold maxLen at m0
  have HL0 := Lib.hid (h0.len rfC_len (by omega))
  have HL1 := Lib.hid (h1.len rfC_len (by omega))
  have H0 := Lib.hid h0; have H1 := Lib.hid h1; clear h0 h1
  have hM : Hid (decide (rs = qs) = true ↔ rs = qs) := decide_eq_true_iff
  generalize decide (rs = qs) = mb at *
  by_cases hn : n0 = n1
  · subst hn
    go_enter Tryd.func62, Tryd.ntmps62
    go_wp2
    go_loopw [13] (fun i wr => ∃ k nq : Nat, k ≤ n0 ∧ i = .int .i64 k ∧ wr = w.drewN nq ∧ Hid (rs.take k = qs.take k)) (fun i _ => n0 - (intOf i).toNat)
    case atStart => exact ⟨0, 0, Nat.zero_le _, rfl, rfl, rfl⟩
    case round =>
      obtain ⟨k, nq, hk, rfl, rfl, heq⟩ := hrel
      by_cases hlt : k < n0
      · obtain ⟨b0, o0, r, rfl, _, hr, x0, x1, x2⟩ := H0.out.ref hlt
        obtain ⟨b1, o1, q, rfl, _, hq, y0, y1, y2⟩ := H1.out.ref hlt
        have HR := Lib.hid hr; have HQ := Lib.hid hq; clear hr hq
        have hlz : (k : Int) < (n0 : Int) := by omega
        by_cases e : r = q
        · have t1 : (r.1.toList == q.1.toList && (r.2.1 == q.2.1 && r.2.2 == q.2.2)) = true := by rw [e]; simp
          have HE := Lib.hid e; clear e
          have hnx : Hid (rs.take (k + 1) = qs.take (k + 1)) := by
            show _ = _
            rw [take_snoc HR.out, take_snoc HQ.out, heq.out, HE.out]
          go_wp2
          go_quiet (fail)
          go_wp2
          go_roundw
          case rel => exact ⟨k + 1, _, by omega, by go_num, rfl, hnx⟩
          case measure => simp [intOf]; omega
        · have t1 : (r.1.toList == q.1.toList && (r.2.1 == q.2.1 && r.2.2 == q.2.2)) = false := by
            rw [Bool.eq_false_iff]; intro hh
            simp only [Bool.and_eq_true, beq_iff_eq, ByteArray.toList_eq] at hh
            apply e
            exact Prod.ext (data_inj hh.1) (Prod.ext hh.2.1 hh.2.2)
          have HE := Lib.hid e; clear e
          go_wp2
          go_quiet (fail)
          go_wp2
          go_ret
          refine ⟨ret_bool ?_, ⟨_, World.drewN_drewN _ _ _⟩⟩
          symm
          rw [Bool.eq_false_iff]
          intro hh
          have := hM.out.1 hh
          subst this
          exact HE.out (Option.some.inj (HR.out.symm.trans HQ.out))
      · have hall : Hid (mb = true) := by
          have := heq.out
          rw [List.take_of_length_le (by rw [HL0.out]; omega), List.take_of_length_le (by rw [HL1.out]; omega)] at this
          exact hM.out.2 this
        go_wp2
        go_ret
        exact ⟨ret_bool hall.out.symm, _, rfl⟩
  · have hne : ((n0 : Int) != (n1 : Int)) = true := by rw [bne_iff_ne]; omega
    go_enter Tryd.func62, Tryd.ntmps62
    go_wp2
    go_ret
    refine ⟨ret_bool ?_, 0, rfl⟩
    symm
    rw [Bool.eq_false_iff]
    intro hh
    have := hM.out.1 hh
    subst this
    exact hn (HL0.out.symm.trans HL1.out)

theorem below_drewN' {B : Nat} {a w : World} (h : Below B a w) (n : Nat) : Below B a (w.drewN n) := ⟨h.os, h.tape, h.output, h.size, h.block⟩

set_option maxHeartbeats 400000 in
theorem same_any (A0 A1 A2 A3 : Option Addr) (n0 c0 n1 c1 n2 c2 n3 c3 B : Nat) (rs qs : List Rf) (us vs : List Upd) (w : World) (h0 : Sl w B 3 A0 n0 (flat rfC rs)) (h1 : Sl w B 5 A1 n1 (flat upC us)) (h2 : Sl w B 3 A2 n2 (flat rfC qs)) (h3 : Sl w B 5 A3 n3 (flat upC vs)) (hB : B ≤ w.heap.size) (m0 : n0 ≤ maxLen) (m1 : n1 ≤ maxLen) :
    Calls Tryd.prog 18 #[.agg #[.slice A0 n0 c0, .slice A1 n1 c1], .agg #[.slice A2 n2 c2, .slice A3 n3 c3]] w fun e w' => e = .returned (.bool (decide (rs = qs) && decide (us = vs))) ∧ Below w.heap.size w w' := by
  have hz : B ≤ (w.alloc (.cells #[.slice A0 n0 c0, .slice A1 n1 c1] 25)).heap.size := by simp; omega
  have HB := Lib.hid (((Below.refl w.heap.size w).alloc (Nat.le_refl _) (.cells #[.slice A0 n0 c0, .slice A1 n1 c1] 25)).alloc (by simp) (.cells #[.slice A2 n2 c2, .slice A3 n3 c3] 25))
  have H0 := Lib.hid ((h0.alloc hB (.cells #[.slice A0 n0 c0, .slice A1 n1 c1] 25)).alloc hz (.cells #[.slice A2 n2 c2, .slice A3 n3 c3] 25))
  have H1 := Lib.hid ((h1.alloc hB (.cells #[.slice A0 n0 c0, .slice A1 n1 c1] 25)).alloc hz (.cells #[.slice A2 n2 c2, .slice A3 n3 c3] 25))
  have H2 := Lib.hid ((h2.alloc hB (.cells #[.slice A0 n0 c0, .slice A1 n1 c1] 25)).alloc hz (.cells #[.slice A2 n2 c2, .slice A3 n3 c3] 25))
  have H3 := Lib.hid ((h3.alloc hB (.cells #[.slice A0 n0 c0, .slice A1 n1 c1] 25)).alloc hz (.cells #[.slice A2 n2 c2, .slice A3 n3 c3] 25))
  have M0 := Lib.hid m0; have M1 := Lib.hid m1
  clear h0 h1 h2 h3 m0 m1 hz
  go_enter Tryd.func18, Tryd.ntmps18
  go_wp2_with fail
  refine (sameRefs_any A0 A2 n0 c0 n2 c2 B rs qs _ H0.out H2.out M0.out).mono ?_
  rintro e w1 ⟨rfl, k1, rfl⟩
  cases hd : decide (rs = qs) with
  | false =>
    go_wp2_with fail
    go_ret
    exact ⟨ret_bool (by rw [hd]; rfl), below_drewN' HB.out _⟩
  | true =>
    go_wp2_with fail
    refine (sameUpds_any A1 A3 n1 c1 n3 c3 B us vs _ (H1.out.drewN _) (H3.out.drewN _) M1.out).mono ?_
    rintro e w2 ⟨rfl, k2, rfl⟩
    go_wp2_with fail
    go_ret
    exact ⟨ret_bool (by rw [hd, Bool.true_and]), below_drewN' HB.out _⟩

set_option maxHeartbeats 400000 in
theorem get_any (A0 : Option Addr) (n0 c0 B : Nat) (rs : List Rf) (s : ByteArray) (w : World) (h0 : Sl w B 3 A0 n0 (flat rfC rs)) (hB : B ≤ w.heap.size) (m0 : n0 ≤ maxLen) :
    Calls Tryd.prog 39 #[.slice A0 n0 c0, .string s] w fun e w' => e = .returned (digV (getL rs s)) ∧ Below w.heap.size w w' := by
  unfold maxLen at m0
  have HL0 := Lib.hid (h0.len rfC_len (by omega))
  have H0 := Lib.hid (h0.alloc hB (.cells #[.int .u64 0, .int .u64 0] 28)); clear h0
  have HB := Lib.hid ((Below.refl w.heap.size w).alloc (Nat.le_refl _) (.cells #[.int .u64 0, .int .u64 0] 28))
  go_enter Tryd.func39, Tryd.ntmps39
  go_wp2
  go_loop [5] (fun i => ∃ k : Nat, k ≤ n0 ∧ i = .int .i64 k ∧ Hid (getL rs s = getL (rs.drop k) s)) (fun i => n0 - (intOf i).toNat)
  case atStart => exact ⟨0, Nat.zero_le _, rfl, rfl⟩
  case round =>
    obtain ⟨k, hk, rfl, hg⟩ := hrel
    by_cases hlt : k < n0
    · obtain ⟨b, off, r, rfl, _, hr, x0, x1, x2⟩ := H0.out.ref hlt
      have hdr : Hid (getL (rs.drop k) s = if r.1 = s then r.2 else getL (rs.drop (k + 1)) s) := by
        show _ = _
        have hl := (List.getElem?_eq_some_iff.1 hr)
        rw [List.drop_eq_getElem_cons hl.1, getL, hl.2]
      clear hr
      by_cases e : r.1 = s
      · have t1 : (r.1.toList == s.toList) = true := by rw [e]; simp
        have HE := Lib.hid e; clear e
        go_wp2
        refine bodyPost_ret (v := digV r.2) (by simp [results, Tryd.results39, go_sem, digV]) rfl ⟨?_, (Below.refl _ _).alloc (Nat.le_refl _) _⟩
        rw [hg.out, hdr.out, if_pos HE.out]
      · have t1 : (r.1.toList == s.toList) = false := by
          rw [beq_eq_false_iff_ne, ByteArray.toList_eq, ByteArray.toList_eq]; exact fun h => e (data_inj h)
        have HE := Lib.hid e; clear e
        go_wp2
        go_round
        case rel => exact ⟨k + 1, by omega, by go_num, by show _ = _; rw [hg.out, hdr.out, if_neg HE.out]⟩
        case measure => simp [intOf]; omega
    · have hz : Hid (getL rs s = (0, 0)) := by
        show _ = _
        rw [hg.out, List.drop_of_length_le (by rw [HL0.out]; omega)]; rfl
      go_wp2
      refine bodyPost_ret (v := digV (0, 0)) (by simp [results, Tryd.results39, go_sem, digV]) rfl ⟨?_, (Below.refl _ _).alloc (Nat.le_refl _) _⟩
      rw [hz.out]
end Go.Proofs.YtikmiabncbhioaaDoor
