/-
  refs.appendDigest: the 16 bytes of a digest behind a text.
-/
import Derived.Test.YtikmiabncbhioaaDoorDgs
import Derived.Test.YtikmiabncbhioaaDoorApp
import Derived.Test.YtikmiabncbhioaaDoorBld
namespace Go.Proofs.YtikmiabncbhioaaDoor
open Go.RowKit

theorem be_get : ∀ (k n j : Nat), j < k → (be k n)[j]? = some (UInt8.ofNat (n / 256 ^ (k - 1 - j) % 256))
  | 0, _, _, h => by omega
  | k + 1, n, 0, _ => by simp [be]
  | k + 1, n, j + 1, h => by
    simp only [be, List.getElem?_cons_succ]
    rw [be_get k n j (by omega), show k + 1 - 1 - (j + 1) = k - 1 - j by omega]

def RetTxt (w : World) (base av n : Nat) (bs : Bytes) (e : Ending) (w' : World) : Prop := ∃ A c, e = .returned (.slice A n c) ∧ Txt w' base av A n c bs ∧ Below base w w' ∧ w'.heap[av]? = w.heap[av]?

set_option maxRecDepth 100000 in
set_option maxHeartbeats 4000000 in
theorem appendDigest_any (d : Dig) (hd : WfD d) (A : Option Addr) (n c base av : Nat) (bs : Bytes) (w : World) (h : Txt w base av A n c bs) (hbase : base ≤ w.heap.size) (hav : av < w.heap.size) (hlen : n ≤ 1099511627776) :
    Calls Tryd.prog 44 #[.slice A n c, digV d] w (RetTxt w base av (n + 16) (bs ++ digB d)) := by
  obtain ⟨x, y⟩ := d
  obtain ⟨hx0, hx1, hy0, hy1⟩ := hd
  simp only at hx0 hx1 hy0 hy1
  obtain ⟨x, rfl⟩ := Int.eq_ofNat_of_zero_le hx0
  obtain ⟨y, rfl⟩ := Int.eq_ofNat_of_zero_le hy0
  have HX1 := Lib.hid hx1; have HY1 := Lib.hid hy1; clear hx0 hx1 hy0 hy1
  show Calls Tryd.prog 44 #[.slice A n c, .agg #[.int .u64 x, .int .u64 y]] w _
  obtain ⟨i0, hi, hz0, hz1, hz2⟩ := info_parts infoByte
  have Hi := Lib.hid hi; have Hz0 := Lib.hid hz0; have Hz1 := Lib.hid hz1; have Hz2 := Lib.hid hz2
  clear hi hz0 hz1 hz2
  have HT : Hid (Txt (w.alloc (.cells #[.int .u64 x, .int .u64 y] 28)) base av A n c bs) := h.below ((Below.refl _ _).alloc (Nat.le_refl _) _)
  have HB : Hid (Below base w (w.alloc (.cells #[.int .u64 x, .int .u64 y] 28))) := (Below.refl _ _).alloc hbase _
  clear h
  go_enter Tryd.func44, Tryd.ntmps44
  go_wp2
  go_loopw [0, 9] (fun v i wr => ∃ (k : Nat) (A' : Option Addr) (m c' : Nat), k ≤ 2 ∧ i = .int .i64 k ∧ v = .slice A' m c' ∧ Hid (m = n + 8 * k) ∧ Hid (Txt wr base av A' m c' (bs ++ (digB (x, y)).take (8 * k))) ∧ Hid (Below base w wr) ∧ base ≤ wr.heap.size ∧ Hid (wr.heap[av]? = w.heap[av]?) ∧ av < wr.heap.size) (fun _ i _ => 2 - (intOf i).toNat)
  case atStart => exact ⟨0, A, n, c, by omega, rfl, rfl, rfl, by show Txt _ _ _ _ _ _ _; rw [show 8 * 0 = 0 from rfl, List.take_zero, List.append_nil]; exact HT.out, HB.out, by simp; omega, Below.heap_alloc w _ av hav, by simp; omega⟩
  case round =>
    obtain ⟨k, A', m, c', hk, rfl, rfl, hm, hT, hB, hwz, hAV, hal⟩ := hrel
    by_cases hlt2 : k < 2
    · have hlz : (k : Int) < 2 := by omega
      obtain ⟨z, hz, hix, hby⟩ : ∃ z : Nat, Hid (z < 18446744073709551616) ∧ (∀ w, (Instr.index 28 (.agg #[.int .u64 (x : Int), .int .u64 (y : Int)]) (.int .i64 (k : Int))).run Tryd.prog w = .ok (.int .u64 (z : Int)) w) ∧ (∀ j, j < 8 → (digB ((x : Int), (y : Int)))[8 * k + j]? = some (UInt8.ofNat (z / 256 ^ (7 - j) % 256))) := by
        rcases Nat.lt_or_ge k 1 with h1 | h1
        · obtain rfl : k = 0 := by omega
          refine ⟨x, by show _ < _; have := HX1.out; omega, fun w => by kernel_rfl, fun j hj => ?_⟩
          unfold digB
          rw [List.getElem?_append_left (by rw [be_len]; omega), Int.toNat_natCast, show 8 * 0 + j = j by omega]
          exact be_get 8 x j hj
        · obtain rfl : k = 1 := by omega
          refine ⟨y, by show _ < _; have := HY1.out; omega, fun w => by kernel_rfl, fun j hj => ?_⟩
          unfold digB
          rw [List.getElem?_append_right (by rw [be_len]; omega), Int.toNat_natCast, be_len, show 8 * 1 + j - 8 = j by omega]
          exact be_get 8 y j hj
      have HBY := Lib.hid hby; clear hby
      go_wp2
      obtain ⟨wo, rfl⟩ : ∃ wo : World, wo = wr := ⟨_, rfl⟩
      go_loopw [0, 7] (fun v i wr => ∃ (j : Nat) (A' : Option Addr) (m c' : Nat), j ≤ 8 ∧ i = .int .i64 (56 - 8 * (j : Int)) ∧ v = .slice A' m c' ∧ Hid (m = n + 8 * k + j) ∧ Hid (Txt wr base av A' m c' (bs ++ (digB ((x : Int), (y : Int))).take (8 * k + j))) ∧ Hid (Below base w wr) ∧ base ≤ wr.heap.size ∧ Hid (wr.heap[av]? = w.heap[av]?) ∧ av < wr.heap.size) (fun _ i _ => (intOf i + 8).toNat)
      case atStart => exact ⟨0, A', m, c', by omega, rfl, rfl, hm, hT, hB, hwz, hAV, hal⟩
      case round =>
        obtain ⟨j, A', m, c', hj, rfl, rfl, hm, hT, hB, hwz, hAV, hal⟩ := hrel
        by_cases hlt : j < 8
        · have hji : (0 : Int) ≤ 56 - 8 * (j : Int) := by omega
          obtain ⟨p, hp⟩ : ∃ p, z / 256 ^ (7 - j) = p := ⟨_, rfl⟩
          have hsh : ∀ yk, Op.shift .shr .u64 (z : Int) yk (56 - 8 * (j : Int)) = pure (.int .u64 (p : Int)) := fun yk => by
            rw [shift_shr .u64 yk _ _ hji (by show _ ≤ (64 : Int); omega), ← hp]
            rw [show (56 - 8 * (j : Int)).toNat = 8 * (7 - j) by omega]
            have e : ((z : Int) / 2 ^ (8 * (7 - j))) = ((z / 256 ^ (7 - j) : Nat) : Int) := by
              rw [show (256 : Nat) = 2 ^ 8 from rfl, ← Nat.pow_mul]; simp
            rw [e]
          obtain ⟨b, hb⟩ : ∃ b, UInt8.ofNat (p % 256) = b := ⟨_, rfl⟩
          have hw : IntKind.u8.wrap (p : Int) = (b.toNat : Int) := by
            rw [IntKind.wrap_u8, ← hb, toNat_ofNat8 (by omega)]; omega
          have HBJ : Hid ((digB ((x : Int), (y : Int)))[8 * k + j]? = some b) := by
            show _ = _
            rw [HBY.out j hlt, hp, hb]
          clear hp hb
          generalize hq : 56 - 8 * (j : Int) = q at *
          have HQ := Lib.hid hq; clear hq
          go_wp2_with (at_builtin; refine halt_ ?_)
          refine unhalt ?_
          have hml : m ≤ 2000000000000 := by have := hm.out; omega
          refine wpList_append_txt (base := base) (av := av) rfl (.tmp 16) (.tmp 21) 70 70 rfl 5 i0 Tryd.underlying70 Hi.out Hz0.out Hz1.out Hz2.out A' m c' (bs ++ (digB ((x : Int), (y : Int))).take (8 * k + j)) rfl ?tx _ 1 [b] rfl ?src (by omega) (by simp; omega) (by simp; omega) ?_
          case tx => exact hT.out.below ((Below.refl _ _).alloc (Nat.le_refl _) _)
          case src =>
            refine Src.ofSlice _ Tryd.underlying70 ⟨wr.heap.size, 0, none⟩ 1 1 (bc [b]) rfl (fun i u hu => ?_) (fun u hu => ?_)
            · match i, hu with
              | 0, hu => simp [bc] at hu; subst hu; simp [Addr.add]
            · simp [bc] at hu; subst hu; rfl
          intro A5 c5 w5 a5 hb5 hv5
          have HV5 : Hid (w5.heap[av]? = w.heap[av]?) := (hv5.trans (Below.heap_alloc wr _ av hal)).trans hAV.out
          have hal5 : av < w5.heap.size := by have := hb5.size; simp at this; omega
          clear hv5
          rw [List.append_assoc, ← take_snoc HBJ.out] at a5
          have HA5 := Lib.hid a5
          have HB5 := Lib.hid ((hB.out.alloc hwz (.cells #[.int .u8 b.toNat] 5)).trans hb5)
          have hz5 : base ≤ w5.heap.size := by have := hb5.size; simp at this; omega
          clear a5 hb5
          have hq1 : -100 ≤ q := by have := HQ.out; omega
          have hq2 : q ≤ 100 := by have := HQ.out; omega
          go_wp2
          go_roundw
          case rel => exact ⟨j + 1, A5, m + 1, c5, by omega, by rw [← HQ.out]; congr 1; omega, rfl, by show _ = _; have := hm.out; omega, HA5.out, HB5.out, hz5, HV5.out, hal5⟩
          case measure => have := HQ.out; simp [intOf]; omega
        · have hji : ¬ (0 : Int) ≤ 56 - 8 * (j : Int) := by omega
          have HJ8 : Hid (j = 8) := by show _ = _; omega
          generalize hq : 56 - 8 * (j : Int) = q at *
          clear hq
          go_wp2
          go_roundw
          case rel => exact ⟨k + 1, A', m, c', by omega, by go_num, rfl, by show _ = _; have := hm.out; have := HJ8.out; omega, by show Txt _ _ _ _ _ _ _; have h1 := hT.out; rw [HJ8.out] at h1; exact h1, hB.out, hwz, hAV.out, hal⟩
          case measure => simp [intOf]; omega
    · have hlz : ¬ (k : Int) < 2 := by omega
      have HK2 : Hid (k = 2) := by show _ = _; omega
      have hT2 := hT.out
      have hm2 := hm.out
      rw [HK2.out, List.take_of_length_le (by rw [digB_len]; omega)] at hT2
      rw [HK2.out] at hm2
      obtain rfl : m = n + 16 := hm2
      have HT2 := Lib.hid hT2; clear hT2 hm
      go_wp2
      go_ret
      exact ⟨A', c', rfl, HT2.out, hB.out, hAV.out⟩
end Go.Proofs.YtikmiabncbhioaaDoor
