/-
  cordwoodref07.Bytes: the 16 bytes of a digest.
-/
import Derived.Test.YtikmiabncbhioaaDoorApDg
namespace Go.Proofs.YtikmiabncbhioaaDoor
open Go.RowKit

/-- the bytes D at the places p, zero elsewhere -/
def Lf (D : Bytes) (p : Nat → Bool) : Bytes := (List.range 16).map fun j => if p j then D.getD j 0 else 0
theorem Lf_len (D : Bytes) (p : Nat → Bool) : (Lf D p).length = 16 := by simp [Lf]
theorem Lf_set (D : Bytes) (p p' : Nat → Bool) (q : Nat) (b : UInt8) (hb : D[q]? = some b) (hp : ∀ j, p' j = (p j || j == q)) : (Lf D p).set q b = Lf D p' := by
  apply List.ext_getElem?
  intro j
  unfold Lf
  rw [List.getElem?_set]
  by_cases hj : j < 16
  · simp only [List.length_map, List.length_range, List.getElem?_map, List.getElem?_range hj, Option.map_some, hp j]
    by_cases e : q = j
    · subst e
      simp [hj, List.getD, hb]
    · have : (j == q) = false := by rw [beq_eq_false_iff_ne]; exact fun h => e h.symm
      simp [e, this]
  · have h1 : (List.range 16)[j]? = none := by rw [List.getElem?_eq_none]; simp; omega
    simp only [List.length_map, List.length_range, List.getElem?_map, h1, Option.map_none]
    split
    · rename_i h; subst h; simp [hj]
    · rfl
theorem Lf_all (D : Bytes) (hD : D.length = 16) (p : Nat → Bool) (hp : ∀ j, j < 16 → p j = true) : Lf D p = D := by
  apply List.ext_getElem?
  intro j
  unfold Lf
  by_cases hj : j < 16
  · simp [List.getElem?_range hj, hp j hj, List.getD, List.getElem?_eq_getElem (show j < D.length by omega)]
  · rw [List.getElem?_eq_none (by simp; omega), List.getElem?_eq_none (by omega)]
theorem bc_set (l : Bytes) (q : Nat) (b : UInt8) : (bc (l.set q b)).toArray = (bc l).toArray.setIfInBounds q (.int .u8 b.toNat) := by
  apply Array.ext'
  simp [bc, List.map_set]
def pw (k t : Nat) (j : Nat) : Bool := decide (j < 8 * k ∨ (8 * k + 8 - t ≤ j ∧ j < 8 * k + 8))

def zeros16 : Array Value := Array.replicate 16 (.int .u8 0)
theorem mk16 (w : World) : (Instr.makeSlice 70 (.int .i64 16) (.int .i64 16)).run Tryd.prog w = .ok (.slice (some ⟨w.heap.size, 0, none⟩) 16 16) (w.alloc (.cells zeros16 5)) := by kernel_rfl
theorem zeros_Lf (D : Bytes) : zeros16 = (bc (Lf D (pw 0 0))).toArray := by
  have : Lf D (pw 0 0) = List.replicate 16 0 := by
    apply List.ext_getElem?
    intro j
    unfold Lf
    by_cases hj : j < 16
    · have h0 : pw 0 0 j = false := by
        simp only [pw, decide_eq_false_iff_not]; omega
      rw [List.getElem?_replicate, if_pos hj, List.getElem?_map, List.getElem?_range hj, Option.map_some, h0]
      rfl
    · rw [List.getElem?_eq_none (by simp; omega), List.getElem?_eq_none (by simp; omega)]
  rw [this]
  rfl
theorem pw_next (k j : Nat) : pw (k + 1) 0 j = pw k 8 j := by
  simp only [pw, decide_eq_decide]; omega
theorem pw_step {k t : Nat} (ht : t < 8) (j : Nat) : pw k (t + 1) j = (pw k t j || j == 8 * k + (7 - t)) := by
  simp only [pw]
  rw [Bool.eq_iff_iff]
  simp
  omega

set_option maxRecDepth 100000 in
set_option maxHeartbeats 4000000 in
theorem refBytes_any (d : Dig) (hd : WfD d) (w : World) : Calls Tryd.prog 48 #[digV d] w fun e w' => e = .returned (.string (ofL (digB d))) ∧ Below w.heap.size w w' := by
  obtain ⟨x, y⟩ := d
  obtain ⟨hx0, hx1, hy0, hy1⟩ := hd
  simp only at hx0 hx1 hy0 hy1
  obtain ⟨x, rfl⟩ := Int.eq_ofNat_of_zero_le hx0
  obtain ⟨y, rfl⟩ := Int.eq_ofNat_of_zero_le hy0
  have HX1 := Lib.hid hx1; have HY1 := Lib.hid hy1; clear hx0 hx1 hy0 hy1
  show Calls Tryd.prog 48 #[.agg #[.int .u64 x, .int .u64 y]] w _
  have hmk := mk16
  have K0 : Bk ((w.alloc (.cells #[.int .u64 x, .int .u64 y] 28)).alloc (.cells zeros16 5)) w.heap.size 28 #[.int .u64 x, .int .u64 y] := (Bk.new w 28 _).alloc _
  have K1 : Bk ((w.alloc (.cells #[.int .u64 x, .int .u64 y] 28)).alloc (.cells zeros16 5)) (w.heap.size + 1) 5 (bc (Lf (digB ((x : Int), (y : Int))) (pw 0 0))).toArray := by
    have := Bk.new (w.alloc (.cells #[.int .u64 x, .int .u64 y] 28)) 5 zeros16
    rw [World.size_alloc, zeros_Lf (digB ((x : Int), (y : Int)))] at this
    rw [zeros_Lf (digB ((x : Int), (y : Int)))]
    exact this
  have HB : Hid (Below w.heap.size w ((w.alloc (.cells #[.int .u64 x, .int .u64 y] 28)).alloc (.cells zeros16 5))) := ((Below.refl _ w).alloc (Nat.le_refl _) _).alloc (by simp) _
  have HK0 := Lib.hid K0; have HK1 := Lib.hid K1; clear K0 K1
  go_enter Tryd.func48, Tryd.ntmps48
  go_wp2
  go_loopw [4] (fun i wr => ∃ k : Nat, k ≤ 2 ∧ i = .int .i64 k ∧ Hid (Bk wr w.heap.size 28 #[.int .u64 x, .int .u64 y]) ∧ Hid (Bk wr (w.heap.size + 1) 5 (bc (Lf (digB ((x : Int), (y : Int))) (pw k 0))).toArray) ∧ Hid (Below w.heap.size w wr)) (fun i _ => 2 - (intOf i).toNat)
  case atStart => exact ⟨0, by omega, rfl, HK0.out, HK1.out, HB.out⟩
  case round =>
    obtain ⟨k, hk, rfl, J0, J1, hB⟩ := hrel
    by_cases hlt2 : k < 2
    · have hlz : (k : Int) < 2 := by omega
      obtain ⟨z, hz, hix, hby⟩ : ∃ z : Nat, Hid (z < 18446744073709551616) ∧ wr.cell? ⟨w.heap.size, k, none⟩ = some (.int .u64 (z : Int)) ∧ (∀ j, j < 8 → (digB ((x : Int), (y : Int)))[8 * k + j]? = some (UInt8.ofNat (z / 256 ^ (7 - j) % 256))) := by
        rcases Nat.lt_or_ge k 1 with h1 | h1
        · obtain rfl : k = 0 := by omega
          refine ⟨x, by show _ < _; have := HX1.out; omega, J0.out.cell 0, fun j hj => ?_⟩
          unfold digB
          rw [List.getElem?_append_left (by rw [be_len]; omega), Int.toNat_natCast, show 8 * 0 + j = j by omega]
          exact be_get 8 x j hj
        · obtain rfl : k = 1 := by omega
          refine ⟨y, by show _ < _; have := HY1.out; omega, J0.out.cell 1, fun j hj => ?_⟩
          unfold digB
          rw [List.getElem?_append_right (by rw [be_len]; omega), Int.toNat_natCast, be_len, show 8 * 1 + j - 8 = j by omega]
          exact be_get 8 y j hj
      have HBY := Lib.hid hby; clear hby
      go_wp2
      obtain ⟨wo, rfl⟩ : ∃ wo : World, wo = wr := ⟨_, rfl⟩
      go_loopw [5, 6] (fun v i wr => ∃ (t p : Nat), t ≤ 8 ∧ i = .int .i64 (7 - (t : Int)) ∧ v = .int .u64 p ∧ Hid (p = z / 256 ^ t) ∧ Hid (Bk wr w.heap.size 28 #[.int .u64 x, .int .u64 y]) ∧ Hid (Bk wr (w.heap.size + 1) 5 (bc (Lf (digB ((x : Int), (y : Int))) (pw k t))).toArray) ∧ Hid (Below w.heap.size w wr)) (fun _ i _ => (intOf i + 1).toNat)
      case atStart => exact ⟨0, z, by omega, rfl, rfl, by show _ = _; simp, J0, J1, hB⟩
      case round =>
        obtain ⟨t, p, ht, rfl, rfl, hp, L0, L1, hB⟩ := hrel
        by_cases hlt : t < 8
        · have hji : (0 : Int) ≤ 7 - (t : Int) := by omega
          obtain ⟨b, hb⟩ : ∃ b, UInt8.ofNat (p % 256) = b := ⟨_, rfl⟩
          have hmod : ((p : Int) % 256) = (b.toNat : Int) := by rw [← hb, toNat_ofNat8 (by omega)]; omega
          obtain ⟨p2, hp2⟩ : ∃ p2, p / 256 = p2 := ⟨_, rfl⟩
          have hdiv : ((p : Int) / 256) = (p2 : Int) := by omega
          have HBJ : Hid ((digB ((x : Int), (y : Int)))[8 * k + (7 - t)]? = some b) := by
            show _ = _
            rw [HBY.out (7 - t) (by omega), show 7 - (7 - t) = t by omega, ← hp.out, hb]
          have HDV : Hid (p2 = z / 256 ^ (t + 1)) := by show _ = _; rw [← hp2, hp.out, Nat.pow_succ, Nat.div_div_eq_div_mul]
          have hbl : b.toNat < 256 := b.toNat_lt
          have HPB : Hid (p2 < 18446744073709551616) := by
            show _ < _
            rw [HDV.out]; exact Nat.lt_of_le_of_lt (Nat.div_le_self _ _) hz.out
          clear hb hp2
          generalize hq : 7 - (t : Int) = q at *
          have HQ := Lib.hid hq
          obtain ⟨r, hr⟩ : ∃ r : Nat, 8 * (k : Int) + q = (r : Int) := ⟨8 * k + (7 - t), by omega⟩
          have HR : Hid (r = 8 * k + (7 - t)) := by show _ = _; omega
          have hrl : r < 16 := by omega
          have f0 := L1.out.free r
          obtain ⟨v0, hv0⟩ : ∃ v0, wr.cell? ⟨w.heap.size + 1, r, none⟩ = some v0 := by
            rw [L1.out.cell]
            have hl : r < (bc (Lf (digB ((x : Int), (y : Int))) (pw k t))).toArray.size := by rw [List.size_toArray, bc_len, Lf_len]; exact hrl
            exact ⟨_, Array.getElem?_eq_getElem hl⟩
          have hq1 : -100 ≤ q := by omega
          have hq2 : q ≤ 100 := by omega
          clear hq
          go_wp2
          go_roundw
          case rel =>
            refine ⟨t + 1, p2, by omega, by rw [← HQ.out]; congr 1; omega, by rw [IntWalk.u64_in _ ⟨by omega, by have := HPB.out; omega⟩], HDV.out, L0.out.far (p := ⟨w.heap.size + 1, r, none⟩) (by simp) _, ?_, hB.out.setCell (p := ⟨w.heap.size + 1, r, none⟩) (by simp) _⟩
            have h1 := L1.out.set r (.int .u8 b.toNat)
            have hD := HBJ.out
            rw [← HR.out] at hD
            rw [← bc_set, Lf_set _ _ (pw k (t + 1)) r b hD (fun j => by rw [pw_step hlt, HR.out])] at h1
            exact h1
          case measure => have := HQ.out; simp [intOf]; omega
        · have hji : ¬ (0 : Int) ≤ 7 - (t : Int) := by omega
          have HT8 : Hid (t = 8) := by show _ = _; omega
          generalize hq : 7 - (t : Int) = q at *
          clear hq
          go_wp2
          go_roundw
          case rel =>
            refine ⟨k + 1, by omega, by go_num, L0.out, ?_, hB.out⟩
            have h1 := L1.out
            rw [HT8.out, ← show pw (k + 1) 0 = pw k 8 from funext (pw_next k)] at h1
            exact h1
          case measure => simp [intOf]; omega
    · have hlz : ¬ (k : Int) < 2 := by omega
      have HK2 : Hid (k = 2) := by show _ = _; omega
      have hconv := run_convert_bytes_back (P := Tryd.prog) wr 70 9 5 ⟨w.heap.size + 1, 0, none⟩ 16 (digB ((x : Int), (y : Int))) Tryd.underlying70 Tryd.underlying5 Tryd.underlying9 (by
        intro j hj
        have h1 := J1.out.cell j
        rw [Lf_all _ (digB_len _) (pw k 0) (fun i hi => by rw [HK2.out]; simp only [pw, decide_eq_true_eq]; omega)] at h1
        rw [Addr.add_lit, Nat.zero_add, h1]
        simp [bc, List.getElem?_eq_getElem hj])
      rw [digB_len] at hconv
      go_wp2
      go_ret
      exact ⟨rfl, hB.out⟩
end Go.Proofs.YtikmiabncbhioaaDoor
