/-
  The small functions: proper (program and reference), get, Many, Great.
-/
import Derived.Test.YtikmiabncbhioaaDoorEq
import Derived.Test.YtikmiabncbhioaaDoorSpec
import Derived.Deep.QuietTactic
import Derived.BigQuiet
namespace Go.Proofs.YtikmiabncbhioaaDoor
open Go.RowKit

theorem dig_eq_true {d e : Dig} (h : d = e) : (d.1 == e.1 && d.2 == e.2) = true := by simp [h]
theorem dig_eq_false {d e : Dig} (h : d ≠ e) : (d.1 == e.1 && d.2 == e.2) = false := by
  rw [Bool.eq_false_iff]; intro hh; simp at hh; exact h (Prod.ext hh.1 hh.2)

theorem bcell {W w1 : World} {B : Nat} (hb : Below B W w1) : ∀ b o, b < B → w1.cell? ⟨b, o, none⟩ = W.cell? ⟨b, o, none⟩ := fun b o h => hb.cell (p := ⟨b, o, none⟩) h

set_option maxHeartbeats 400000 in
theorem proper_any (u : Upd) (w : World) (hs : u.1.size ≤ maxLen) :
    Calls Tryd.prog 41 #[updV u] w fun e w' => e = .returned (.int .i64 (properE u)) ∧ Below w.heap.size w w' := by
  obtain ⟨s, ⟨a, b⟩, ⟨c, d⟩⟩ := u
  have hP : Hid (properE (s, (a, b), (c, d)) = if nameB s then (if (a, b) = (c, d) then 1 else 0) else 6) := rfl
  generalize properE (s, (a, b), (c, d)) = pe at *
  show Calls Tryd.prog 41 #[.agg #[.string s, .int .u64 a, .int .u64 b, .int .u64 c, .int .u64 d]] w _
  have HS := Lib.hid hs
  clear hs
  go_enter Tryd.func41, Tryd.ntmps41
  go_wp2_with fail
  refine (isName_any s _ HS.out).mono ?_
  rintro e w1 ⟨rfl, hb⟩
  have hc := bcell hb
  have H1 := hc w.heap.size 1 (by simp); have H2 := hc w.heap.size 2 (by simp); have H3 := hc w.heap.size 3 (by simp); have H4 := hc w.heap.size 4 (by simp)
  have HB := Lib.hid (((Below.refl _ _).alloc (Nat.le_refl _) _).trans (hb.mono (by simp)))
  clear hc hb
  simp at H1 H2 H3 H4
  cases hn : nameB s with
  | false =>
    go_wp2
    go_ret
    exact ⟨ret_int (by rw [hP.out, hn]; rfl), HB.out⟩
  | true =>
    by_cases e : (a, b) = ((c, d) : Dig)
    · have t1 := dig_eq_true e
      simp only at t1
      have HE := Lib.hid e
      clear e
      go_wp2
      go_ret
      exact ⟨ret_int (by rw [hP.out, hn, if_pos HE.out]; rfl), HB.out⟩
    · have t1 := dig_eq_false e
      simp only at t1
      have HE := Lib.hid e
      clear e
      go_wp2
      go_ret
      exact ⟨ret_int (by rw [hP.out, hn, if_neg HE.out]; rfl), HB.out⟩

set_option maxHeartbeats 400000 in
theorem refProper_any (u : Upd) (w : World) (hs : u.1.size ≤ maxLen) :
    Calls Tryd.prog 46 #[updV u] w fun e w' => e = .returned (.int .i64 (properE u)) ∧ Below w.heap.size w w' := by
  obtain ⟨s, ⟨a, b⟩, ⟨c, d⟩⟩ := u
  have hP : Hid (properE (s, (a, b), (c, d)) = if nameB s then (if (a, b) = (c, d) then 1 else 0) else 6) := rfl
  generalize properE (s, (a, b), (c, d)) = pe at *
  show Calls Tryd.prog 46 #[.agg #[.string s, .int .u64 a, .int .u64 b, .int .u64 c, .int .u64 d]] w _
  have HS := Lib.hid hs
  clear hs
  have HB := Lib.hid ((Below.refl w.heap.size w).alloc (Nat.le_refl _) (.cells #[.string s, .int .u64 a, .int .u64 b, .int .u64 c, .int .u64 d] 30))
  go_enter Tryd.func46, Tryd.ntmps46
  go_wp2_with fail
  refine (refName_any s _ HS.out).mono ?_
  rintro e w1 ⟨rfl, rfl⟩
  cases hn : nameB s with
  | false =>
    go_wp2
    go_ret
    exact ⟨ret_int (by rw [hP.out, hn]; rfl), HB.out⟩
  | true =>
    by_cases e : (a, b) = ((c, d) : Dig)
    · have t1 := dig_eq_true e
      simp only at t1
      have HE := Lib.hid e
      clear e
      go_wp2
      go_ret
      exact ⟨ret_int (by rw [hP.out, hn, if_pos HE.out]; rfl), HB.out⟩
    · have t1 := dig_eq_false e
      simp only at t1
      have HE := Lib.hid e
      clear e
      go_wp2
      go_ret
      exact ⟨ret_int (by rw [hP.out, hn, if_neg HE.out]; rfl), HB.out⟩

def manyB (us : List Upd) : Bool := us.any (fun u => decide (150 < u.1.size)) || decide (12 < us.length)

/-- the cells of the k-th update of a slice of updates -/
theorem Sl.upd {w : World} {B n k : Nat} {A : Option Addr} {us : List Upd} (h : Sl w B 5 A n (flat upC us)) (hk : k < n) :
    ∃ b off u, A = some ⟨b, off, none⟩ ∧ b < B ∧ us[k]? = some u ∧ w.cell? ⟨b, off + k * 5, none⟩ = some (.string u.1) ∧ w.cell? ⟨b, off + k * 5 + 1, none⟩ = some (.int .u64 u.2.1.1)
      ∧ w.cell? ⟨b, off + k * 5 + 2, none⟩ = some (.int .u64 u.2.1.2) ∧ w.cell? ⟨b, off + k * 5 + 3, none⟩ = some (.int .u64 u.2.2.1) ∧ w.cell? ⟨b, off + k * 5 + 4, none⟩ = some (.int .u64 u.2.2.2) := by
  obtain ⟨b, off, u, rfl, hb, hu, hc⟩ := h.at_ upC_len (by omega) hk
  exact ⟨b, off, u, rfl, hb, hu, hc 0 _ rfl, hc 1 _ rfl, hc 2 _ rfl, hc 3 _ rfl, hc 4 _ rfl⟩
theorem Sl.ref {w : World} {B n k : Nat} {A : Option Addr} {rs : List Rf} (h : Sl w B 3 A n (flat rfC rs)) (hk : k < n) :
    ∃ b off r, A = some ⟨b, off, none⟩ ∧ b < B ∧ rs[k]? = some r ∧ w.cell? ⟨b, off + k * 3, none⟩ = some (.string r.1) ∧ w.cell? ⟨b, off + k * 3 + 1, none⟩ = some (.int .u64 r.2.1)
      ∧ w.cell? ⟨b, off + k * 3 + 2, none⟩ = some (.int .u64 r.2.2) := by
  obtain ⟨b, off, u, rfl, hb, hu, hc⟩ := h.at_ rfC_len (by omega) hk
  exact ⟨b, off, u, rfl, hb, hu, hc 0 _ rfl, hc 1 _ rfl, hc 2 _ rfl⟩

set_option maxHeartbeats 400000 in
theorem many_any (A : Option Addr) (n c B : Nat) (us : List Upd) (w : World) (hS : Sl w B 5 A n (flat upC us)) (hm : n ≤ maxLen) :
    Calls Tryd.prog 12 #[.slice A n c] w fun e w' => e = .returned (.bool (manyB us)) ∧ w = w' := by
  unfold maxLen at hm
  have HL := Lib.hid (hS.len upC_len (by omega))
  have HS := Lib.hid hS; clear hS
  have hM : Hid (manyB us = (us.any (fun u => decide (150 < u.1.size)) || decide (12 < us.length))) := rfl
  generalize manyB us = mb at *
  go_enter Tryd.func12, Tryd.ntmps12
  go_wp2
  go_loop [3] (fun i => ∃ k : Nat, k ≤ n ∧ i = .int .i64 k ∧ Hid ((us.take k).any (fun u => decide (150 < u.1.size)) = false)) (fun i => n - (intOf i).toNat)
  case atStart => exact ⟨0, Nat.zero_le _, rfl, by simp [Hid]⟩
  case round =>
    obtain ⟨k, hk, rfl, hno⟩ := hrel
    by_cases hlt : k < n
    · obtain ⟨b, off, u, rfl, hb, hu, h0, _, _, _, _⟩ := HS.out.upd hlt
      have HU := Lib.hid hu; clear hu
      by_cases hbig : 150 < u.1.size
      · go_wp2
        go_ret
        refine ⟨ret_bool ?_, rfl⟩
        rw [hM.out]
        have : us.any (fun u => decide (150 < u.1.size)) = true := List.any_eq_true.2 ⟨u, List.mem_of_getElem? HU.out, by simpa using hbig⟩
        rw [this]; rfl
      · have hn : Hid ((us.take (k + 1)).any (fun u => decide (150 < u.1.size)) = false) := by
          show _ = false
          rw [take_snoc HU.out, List.any_append, hno.out]; simpa using hbig
        go_wp2
        go_round
        case rel => exact ⟨k + 1, by omega, by go_num, hn⟩
        case measure => simp [intOf]; omega
    · have hall : Hid (us.any (fun u => decide (150 < u.1.size)) = false) := by
        have := hno.out
        rwa [List.take_of_length_le (by rw [HL.out]; omega)] at this
      have hd : decide (12 < n) = decide (12 < (n : Int)) := by
        rw [decide_eq_decide]; omega
      have HD := Lib.hid hd
      clear hd
      go_wp2
      go_ret
      refine ⟨ret_bool ?_, rfl⟩
      rw [hM.out, hall.out, HL.out, HD.out]; rfl
end Go.Proofs.YtikmiabncbhioaaDoor
