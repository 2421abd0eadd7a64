/-
  Lemmas: cordwoodref07.Bytes: the 16 bytes of a digest. The reference's encode of objects with valid fields. The reference's Check and Encode of objects, exact.
-/
import Derived.IntWalk
import Derived.Test.YtlcecobipgmafaaGreatDoorP12
import Derived.Test.YtlcecobipgmafaaGreatDoorP5
import Derived.Test.YtlcecobipgmafaaGreatDoorP3
import Derived.Test.YtlcecobipgmafaaGreatDoorP6

namespace Go.Proofs.YtlcecobipgmafaaGreatDoor
open Go.RowKit

def Lf (D : Bytes) (p : Nat → Bool) : Bytes := (List.range 16).map fun j => if p j then D.getD j 0 else 0
theorem Lf_len (D : Bytes) (p : Nat → Bool) : (Lf D p).length = 16 := by simp [Lf]
theorem Lf_set (D : Bytes) (p p' : Nat → Bool) (q : Nat) (b : UInt8) (hb : D[q]? = some b) (hp : ∀ j, p' j = (p j || j == q)) : (Lf D p).set q b = Lf D p' := by
  apply List.ext_getElem?
  intro j
  unfold Lf
  rw [List.getElem?_set]
  by_cases hj : j < 16
  · simp only [List.length_map, List.length_range, List.getElem?_map, List.getElem?_range hj, Option.map_some, hp j]
    by_cases e : q = j
    · subst e
      simp [hj, List.getD, hb]
    · have : (j == q) = false := by rw [beq_eq_false_iff_ne]; exact fun h => e h.symm
      simp [e, this]
  · have h1 : (List.range 16)[j]? = none := by rw [List.getElem?_eq_none]; simp; omega
    simp only [List.length_map, List.length_range, List.getElem?_map, h1, Option.map_none]
    split
    · rename_i h; subst h; simp [hj]
    · rfl
theorem Lf_all (D : Bytes) (hD : D.length = 16) (p : Nat → Bool) (hp : ∀ j, j < 16 → p j = true) : Lf D p = D := by
  apply List.ext_getElem?
  intro j
  unfold Lf
  by_cases hj : j < 16
  · simp [List.getElem?_range hj, hp j hj, List.getD, List.getElem?_eq_getElem (show j < D.length by omega)]
  · rw [List.getElem?_eq_none (by simp; omega), List.getElem?_eq_none (by omega)]
theorem bc_set (l : Bytes) (q : Nat) (b : UInt8) : (bc (l.set q b)).toArray = (bc l).toArray.setIfInBounds q (.int .u8 b.toNat) := by
  apply Array.ext'
  simp [bc, List.map_set]
def pw (k t : Nat) (j : Nat) : Bool := decide (j < 8 * k ∨ (8 * k + 8 - t ≤ j ∧ j < 8 * k + 8))

def zeros16 : Array Value := Array.replicate 16 (.int .u8 0)
theorem mk16 (w : World) : (Instr.makeSlice 178 (.int .i64 16) (.int .i64 16)).run Tryz.prog w = .ok (.slice (some ⟨w.heap.size, 0, none⟩) 16 16) (w.alloc (.cells zeros16 5)) := by kernel_rfl
theorem zeros_Lf (D : Bytes) : zeros16 = (bc (Lf D (pw 0 0))).toArray := by
  have : Lf D (pw 0 0) = List.replicate 16 0 := by
    apply List.ext_getElem?
    intro j
    unfold Lf
    by_cases hj : j < 16
    · have h0 : pw 0 0 j = false := by
        simp only [pw, decide_eq_false_iff_not]; omega
      rw [List.getElem?_replicate, if_pos hj, List.getElem?_map, List.getElem?_range hj, Option.map_some, h0]
      rfl
    · rw [List.getElem?_eq_none (by simp; omega), List.getElem?_eq_none (by simp; omega)]
  rw [this]
  rfl
theorem pw_next (k j : Nat) : pw (k + 1) 0 j = pw k 8 j := by
  simp only [pw, decide_eq_decide]; omega
theorem pw_step {k t : Nat} (ht : t < 8) (j : Nat) : pw k (t + 1) j = (pw k t j || j == 8 * k + (7 - t)) := by
  simp only [pw]
  rw [Bool.eq_iff_iff]
  simp
  omega

set_option maxRecDepth 100000 in
set_option maxHeartbeats 4000000 in
theorem refBytes_any (d : Dig) (hd : WfD d) (w : World) : Calls Tryz.prog 131 #[digV d] w fun e w' => e = .returned (.string (ofL (digB d))) ∧ Below w.heap.size w w' := by
  obtain ⟨x, y⟩ := d
  obtain ⟨hx0, hx1, hy0, hy1⟩ := hd
  simp only at hx0 hx1 hy0 hy1
  obtain ⟨x, rfl⟩ := Int.eq_ofNat_of_zero_le hx0
  obtain ⟨y, rfl⟩ := Int.eq_ofNat_of_zero_le hy0
  have HX1 := Lib.hid hx1; have HY1 := Lib.hid hy1; clear hx0 hx1 hy0 hy1
  show Calls Tryz.prog 131 #[.agg #[.int .u64 x, .int .u64 y]] w _
  have hmk := mk16
  have K0 : Bk ((w.alloc (.cells #[.int .u64 x, .int .u64 y] 42)).alloc (.cells zeros16 5)) w.heap.size 42 #[.int .u64 x, .int .u64 y] := (Bk.new w 42 _).alloc _
  have K1 : Bk ((w.alloc (.cells #[.int .u64 x, .int .u64 y] 42)).alloc (.cells zeros16 5)) (w.heap.size + 1) 5 (bc (Lf (digB ((x : Int), (y : Int))) (pw 0 0))).toArray := by
    have := Bk.new (w.alloc (.cells #[.int .u64 x, .int .u64 y] 42)) 5 zeros16
    rw [World.size_alloc, zeros_Lf (digB ((x : Int), (y : Int)))] at this
    rw [zeros_Lf (digB ((x : Int), (y : Int)))]
    exact this
  have HB : Hid (Below w.heap.size w ((w.alloc (.cells #[.int .u64 x, .int .u64 y] 42)).alloc (.cells zeros16 5))) := ((Below.refl _ w).alloc (Nat.le_refl _) _).alloc (by simp) _
  have HK0 := Lib.hid K0; have HK1 := Lib.hid K1; clear K0 K1
  go_enter Tryz.func131, Tryz.ntmps131
  go_wp2
  go_loopw [4] (fun i wr => ∃ k : Nat, k ≤ 2 ∧ i = .int .i64 k ∧ Hid (Bk wr w.heap.size 42 #[.int .u64 x, .int .u64 y]) ∧ Hid (Bk wr (w.heap.size + 1) 5 (bc (Lf (digB ((x : Int), (y : Int))) (pw k 0))).toArray) ∧ Hid (Below w.heap.size w wr)) (fun i _ => 2 - (intOf i).toNat)
  case atStart => exact ⟨0, by omega, rfl, HK0.out, HK1.out, HB.out⟩
  case round =>
    obtain ⟨k, hk, rfl, J0, J1, hB⟩ := hrel
    by_cases hlt2 : k < 2
    · have hlz : (k : Int) < 2 := by omega
      obtain ⟨z, hz, hix, hby⟩ : ∃ z : Nat, Hid (z < 18446744073709551616) ∧ wr.cell? ⟨w.heap.size, k, none⟩ = some (.int .u64 (z : Int)) ∧ (∀ j, j < 8 → (digB ((x : Int), (y : Int)))[8 * k + j]? = some (UInt8.ofNat (z / 256 ^ (7 - j) % 256))) := by
        rcases Nat.lt_or_ge k 1 with h1 | h1
        · obtain rfl : k = 0 := by omega
          refine ⟨x, by show _ < _; have := HX1.out; omega, J0.out.cell 0, fun j hj => ?_⟩
          unfold digB
          rw [List.getElem?_append_left (by rw [be_len]; omega), Int.toNat_natCast, show 8 * 0 + j = j by omega]
          exact be_get 8 x j hj
        · obtain rfl : k = 1 := by omega
          refine ⟨y, by show _ < _; have := HY1.out; omega, J0.out.cell 1, fun j hj => ?_⟩
          unfold digB
          rw [List.getElem?_append_right (by rw [be_len]; omega), Int.toNat_natCast, be_len, show 8 * 1 + j - 8 = j by omega]
          exact be_get 8 y j hj
      have HBY := Lib.hid hby; clear hby
      go_wp2
      obtain ⟨wo, rfl⟩ : ∃ wo : World, wo = wr := ⟨_, rfl⟩
      go_loopw [5, 6] (fun v i wr => ∃ (t p : Nat), t ≤ 8 ∧ i = .int .i64 (7 - (t : Int)) ∧ v = .int .u64 p ∧ Hid (p = z / 256 ^ t) ∧ Hid (Bk wr w.heap.size 42 #[.int .u64 x, .int .u64 y]) ∧ Hid (Bk wr (w.heap.size + 1) 5 (bc (Lf (digB ((x : Int), (y : Int))) (pw k t))).toArray) ∧ Hid (Below w.heap.size w wr)) (fun _ i _ => (intOf i + 1).toNat)
      case atStart => exact ⟨0, z, by omega, rfl, rfl, by show _ = _; simp, J0, J1, hB⟩
      case round =>
        obtain ⟨t, p, ht, rfl, rfl, hp, L0, L1, hB⟩ := hrel
        by_cases hlt : t < 8
        · have hji : (0 : Int) ≤ 7 - (t : Int) := by omega
          obtain ⟨b, hb⟩ : ∃ b, UInt8.ofNat (p % 256) = b := ⟨_, rfl⟩
          have hmod : ((p : Int) % 256) = (b.toNat : Int) := by rw [← hb, toNat_ofNat8 (by omega)]; omega
          obtain ⟨p2, hp2⟩ : ∃ p2, p / 256 = p2 := ⟨_, rfl⟩
          have hdiv : ((p : Int) / 256) = (p2 : Int) := by omega
          have HBJ : Hid ((digB ((x : Int), (y : Int)))[8 * k + (7 - t)]? = some b) := by
            show _ = _
            rw [HBY.out (7 - t) (by omega), show 7 - (7 - t) = t by omega, ← hp.out, hb]
          have HDV : Hid (p2 = z / 256 ^ (t + 1)) := by show _ = _; rw [← hp2, hp.out, Nat.pow_succ, Nat.div_div_eq_div_mul]
          have hbl : b.toNat < 256 := b.toNat_lt
          have HPB : Hid (p2 < 18446744073709551616) := by
            show _ < _
            rw [HDV.out]; exact Nat.lt_of_le_of_lt (Nat.div_le_self _ _) hz.out
          clear hb hp2
          generalize hq : 7 - (t : Int) = q at *
          have HQ := Lib.hid hq
          obtain ⟨r, hr⟩ : ∃ r : Nat, 8 * (k : Int) + q = (r : Int) := ⟨8 * k + (7 - t), by omega⟩
          have HR : Hid (r = 8 * k + (7 - t)) := by show _ = _; omega
          have hrl : r < 16 := by omega
          have f0 := L1.out.free r
          obtain ⟨v0, hv0⟩ : ∃ v0, wr.cell? ⟨w.heap.size + 1, r, none⟩ = some v0 := by
            rw [L1.out.cell]
            have hl : r < (bc (Lf (digB ((x : Int), (y : Int))) (pw k t))).toArray.size := by rw [List.size_toArray, bc_len, Lf_len]; exact hrl
            exact ⟨_, Array.getElem?_eq_getElem hl⟩
          have hq1 : -100 ≤ q := by omega
          have hq2 : q ≤ 100 := by omega
          clear hq
          go_wp2
          go_roundw
          case rel =>
            refine ⟨t + 1, p2, by omega, by rw [← HQ.out]; congr 1; omega, by rw [IntWalk.u64_in _ ⟨by omega, by have := HPB.out; omega⟩], HDV.out, L0.out.far (p := ⟨w.heap.size + 1, r, none⟩) (by simp) _, ?_, hB.out.setCell (p := ⟨w.heap.size + 1, r, none⟩) (by simp) _⟩
            have h1 := L1.out.set r (.int .u8 b.toNat)
            have hD := HBJ.out
            rw [← HR.out] at hD
            rw [← bc_set, Lf_set _ _ (pw k (t + 1)) r b hD (fun j => by rw [pw_step hlt, HR.out])] at h1
            exact h1
          case measure => have := HQ.out; simp [intOf]; omega
        · have hji : ¬ (0 : Int) ≤ 7 - (t : Int) := by omega
          have HT8 : Hid (t = 8) := by show _ = _; omega
          generalize hq : 7 - (t : Int) = q at *
          clear hq
          go_wp2
          go_roundw
          case rel =>
            refine ⟨k + 1, by omega, by go_num, L0.out, ?_, hB.out⟩
            have h1 := L1.out
            rw [HT8.out, ← show pw (k + 1) 0 = pw k 8 from funext (pw_next k)] at h1
            exact h1
          case measure => simp [intOf]; omega
    · have hlz : ¬ (k : Int) < 2 := by omega
      have HK2 : Hid (k = 2) := by show _ = _; omega
      have hconv := run_convert_bytes_back (P := Tryz.prog) wr 178 9 5 ⟨w.heap.size + 1, 0, none⟩ 16 (digB ((x : Int), (y : Int))) Tryz.underlying178 Tryz.underlying5 Tryz.underlying9 (by
        intro j hj
        have h1 := J1.out.cell j
        rw [Lf_all _ (digB_len _) (pw k 0) (fun i hi => by rw [HK2.out]; simp only [pw, decide_eq_true_eq]; omega)] at h1
        rw [Addr.add_lit, Nat.zero_add, h1]
        simp [bc, List.getElem?_eq_getElem hj])
      rw [digB_len] at hconv
      go_wp2
      go_ret
      exact ⟨rfl, hB.out⟩
end Go.Proofs.YtlcecobipgmafaaGreatDoor

namespace Go.Proofs.YtlcecobipgmafaaGreatDoor
open Go.RowKit

theorem ofL_app (a b : Bytes) : ofL a ++ ofL b = ofL (a ++ b) := by
  apply toL_inj
  show (ofL a ++ ofL b).data.toList = a ++ b
  rw [ByteArray.data_append, Array.toList_append]; rfl
def Str7E (s : ByteArray) (w : World) (e : Ending) (w' : World) : Prop := e = .returned (.string s) ∧ Below w.heap.size w w'
set_option maxHeartbeats 400000 in
theorem num7_any (n : Nat) (hn : n ≤ 1099511627776) (w : World) : Calls Tryz.prog 129 #[.int .i64 n] w (Str7E (ofL (encN n)) w) := by
  have HP := Lib.hid (refPutInt_any n hn w)
  generalize ofL (encN n) = s at *
  go_enter Tryz.func129, Tryz.ntmps129
  go_wp2_with (first | (go_at_call 147; refine HP.out.mono ?_; rintro e w1 ⟨rfl, hb⟩))
  go_ret
  exact ⟨rfl, hb⟩
set_option maxHeartbeats 400000 in
theorem txt7_any (t : ByteArray) (ht : t.size ≤ 65536) (w : World) : Calls Tryz.prog 130 #[.string t] w (Str7E (ofL (encT (toL t))) w) := by
  have HP := Lib.hid (refPutText_any t ht w)
  generalize ofL (encT (toL t)) = s at *
  go_enter Tryz.func130, Tryz.ntmps130
  go_wp2_with (first | (go_at_call 148; refine HP.out.mono ?_; rintro e w1 ⟨rfl, hb⟩))
  go_ret
  exact ⟨rfl, hb⟩
theorem encT_len {t : ByteArray} (h : t.size ≤ 65536) : (encT (toL t)).length ≤ 70000 := by
  have h1 := encN_len 5 t.size (by omega)
  have h2 := size_toL t
  unfold encT; rw [List.length_append, ← h2]; omega
set_option maxRecDepth 100000 in
set_option maxHeartbeats 8000000 in
theorem encode7_any (o : Ob) (s : Osl) (B : Nat) (w : World) (hm : ObM w B o s) (hB : B ≤ w.heap.size) (ho : OkF o) :
    Calls Tryz.prog 103 #[obV o s] w (Str7E (ofL (encO o)) w) := by
  have hel := hm.elen; have hpl := hm.plen
  have HE := Lib.hid hm.e; have HP := Lib.hid hm.p
  obtain ⟨W0, hW⟩ : ∃ W, w.alloc (.cells (obC o s) 75) = W := ⟨_, rfl⟩
  have HB0 : Hid (Below w.heap.size w W0) := by rw [← hW]; exact (Below.refl _ w).alloc (Nat.le_refl _) _
  have HK0 : Hid (Bk W0 w.heap.size 75 (obC o s)) := by rw [← hW]; exact Bk.new w _ _
  have zk : w.heap.size < W0.heap.size := HK0.out.lt
  cases ho with
  | blob k e c d =>
    have HENC : Hid (encO o = encN o.kind.toNat ++ encT (toL o.data)) := by show _ = _; unfold encO encB; rw [if_neg (by omega), if_neg (by omega)]
    obtain ⟨kind, data, ents, ⟨t1, t2⟩, pars, auth, time, msg⟩ := o
    obtain ⟨eA, en, ec, pA, pn, pc⟩ := s
    simp only at k d HENC
    simp only [obV, obC] at hW HK0 ⊢
    clear hm e c HE HP hel hpl
    rcases k with rfl | rfl
    · obtain ⟨c0, c1, c2, c3, c4, c5, c6, c7, c8⟩ := HK0.out.nine
      have HN1 := Lib.hid (num7_any 1 (by omega) W0)
      have hlk : (encN 1).length = 1 := by rw [encN_small (by omega)]; rfl
      go_enter Tryz.func103, Tryz.ntmps103
      go_wp2_with (first | (go_at_call 129; refine HN1.out.mono ?_; rintro e w1 ⟨rfl, hb⟩; refine halt_ ?_))
      refine unhalt ?_
      have HB1 : Hid (Below w.heap.size w w1) := HB0.out.trans (hb.mono HB0.out.size)
      have HK1 := Lib.hid (HK0.out.below hb zk)
      have z1 : w.heap.size < w1.heap.size := HK1.out.lt
      obtain ⟨s1, hs1⟩ : ∃ s1, ofL (encN 1) = s1 := ⟨_, rfl⟩
      rw [hs1]
      have HS1 : Hid (s1 = ofL (encN 1)) := hs1.symm
      have hz1 : s1.size ≤ 1 := by rw [← hs1, size_ofL]; omega
      clear hb hW c0 c1 c2 c3 c4 c5 c6 c7 c8 HN1 hs1
      obtain ⟨c0, c1, c2, c3, c4, c5, c6, c7, c8⟩ := HK1.out.nine
      have HT := Lib.hid (txt7_any data d w1)
      have hl2 := encT_len d
      obtain ⟨s2, hs2⟩ : ∃ s2, ofL (encT (toL data)) = s2 := ⟨_, rfl⟩
      rw [hs2] at HT
      have HS2 : Hid (s2 = ofL (encT (toL data))) := hs2.symm
      have hz2 : s2.size ≤ 70000 := by rw [← hs2, size_ofL]; exact hl2
      have hsz : ¬ (9223372036854775807 < s1.size + s2.size) := by omega
      clear hs2 d
      go_wp2_with (first | (go_at_call 130; refine HT.out.mono ?_; rintro e w2 ⟨rfl, hb⟩))
      go_ret
      exact ⟨by rw [HENC.out, HS1.out, HS2.out, ofL_app]; rfl, HB1.out.trans (hb.mono HB1.out.size)⟩
    · obtain ⟨c0, c1, c2, c3, c4, c5, c6, c7, c8⟩ := HK0.out.nine
      have HN1 := Lib.hid (num7_any 4 (by omega) W0)
      have hlk : (encN 4).length = 1 := by rw [encN_small (by omega)]; rfl
      go_enter Tryz.func103, Tryz.ntmps103
      go_wp2_with (first | (go_at_call 129; refine HN1.out.mono ?_; rintro e w1 ⟨rfl, hb⟩; refine halt_ ?_))
      refine unhalt ?_
      have HB1 : Hid (Below w.heap.size w w1) := HB0.out.trans (hb.mono HB0.out.size)
      have HK1 := Lib.hid (HK0.out.below hb zk)
      have z1 : w.heap.size < w1.heap.size := HK1.out.lt
      obtain ⟨s1, hs1⟩ : ∃ s1, ofL (encN 4) = s1 := ⟨_, rfl⟩
      rw [hs1]
      have HS1 : Hid (s1 = ofL (encN 4)) := hs1.symm
      have hz1 : s1.size ≤ 1 := by rw [← hs1, size_ofL]; omega
      clear hb hW c0 c1 c2 c3 c4 c5 c6 c7 c8 HN1 hs1
      obtain ⟨c0, c1, c2, c3, c4, c5, c6, c7, c8⟩ := HK1.out.nine
      have HT := Lib.hid (txt7_any data d w1)
      have hl2 := encT_len d
      obtain ⟨s2, hs2⟩ : ∃ s2, ofL (encT (toL data)) = s2 := ⟨_, rfl⟩
      rw [hs2] at HT
      have HS2 : Hid (s2 = ofL (encT (toL data))) := hs2.symm
      have hz2 : s2.size ≤ 70000 := by rw [← hs2, size_ofL]; exact hl2
      have hsz : ¬ (9223372036854775807 < s1.size + s2.size) := by omega
      clear hs2 d
      go_wp2_with (first | (go_at_call 130; refine HT.out.mono ?_; rintro e w2 ⟨rfl, hb⟩))
      go_ret
      exact ⟨by rw [HENC.out, HS1.out, HS2.out, ofL_app]; rfl, HB1.out.trans (hb.mono HB1.out.size)⟩
  | tree k d c e =>
    have HENC : Hid (encO o = encN 2 ++ (encN o.ents.length ++ o.ents.flatMap encE)) := by show _ = _; unfold encO encB; rw [if_pos k, k]; rfl
    obtain ⟨kind, data, ents, ⟨t1, t2⟩, pars, auth, time, msg⟩ := o
    obtain ⟨eA, n, ec, pA, pn, pc⟩ := s
    simp only at k d HENC hel HE
    subst k d
    simp only [obV, obC] at hW HK0 ⊢
    have hn : n ≤ 200 := by rw [← hel]; exact e.few
    have HOE := Lib.hid e.all
    have HEL := Lib.hid hel
    rw [hel] at HENC
    clear hm e c HP hpl hel
    obtain ⟨c0, c1, c2, c3, c4, c5, c6, c7, c8⟩ := HK0.out.nine
    have HN1 := Lib.hid (num7_any 2 (by omega) W0)
    have hlk : (encN 2).length = 1 := by rw [encN_small (by omega)]; rfl
    go_enter Tryz.func103, Tryz.ntmps103
    go_wp2_with (first | (go_at_call 129; refine HN1.out.mono ?_; rintro e w1 ⟨rfl, hb⟩; refine halt_ ?_))
    refine unhalt ?_
    have HB1 : Hid (Below w.heap.size w w1) := HB0.out.trans (hb.mono HB0.out.size)
    have HK1 := Lib.hid (HK0.out.below hb zk)
    have z1 : w.heap.size < w1.heap.size := HK1.out.lt
    obtain ⟨s1, hs1⟩ : ∃ s1, ofL (encN 2) = s1 := ⟨_, rfl⟩
    rw [hs1]
    have HS1 : Hid (s1 = ofL (encN 2)) := hs1.symm
    have hz1 : s1.size ≤ 1 := by rw [← hs1, size_ofL]; omega
    clear hb hW c0 c1 c2 c3 c4 c5 c6 c7 c8 HN1 hs1
    obtain ⟨c0, c1, c2, c3, c4, c5, c6, c7, c8⟩ := HK1.out.nine
    have HT := Lib.hid (num7_any n (by omega) w1)
    have hl2 := encN_len 5 n (by omega)
    obtain ⟨s2, hs2⟩ : ∃ s2, ofL (encN n) = s2 := ⟨_, rfl⟩
    rw [hs2] at HT
    have HS2 : Hid (s2 = ofL (encN n)) := hs2.symm
    have hz2 : s2.size ≤ 6 := by rw [← hs2, size_ofL]; exact hl2
    have hsz : ¬ (9223372036854775807 < s1.size + s2.size) := by omega
    clear hs2
    go_wp2_with (first | (go_at_call 129; refine HT.out.mono ?_; rintro e w2 ⟨rfl, hb⟩; refine halt_ ?_))
    refine unhalt ?_
    have HB2 : Hid (Below w.heap.size w w2) := HB1.out.trans (hb.mono HB1.out.size)
    have HK2 := Lib.hid (HK1.out.below hb z1)
    have z2 : w.heap.size < w2.heap.size := HK2.out.lt
    have HSS : Hid (s1 ++ s2 = ofL (encN 2 ++ encN n ++ (ents.take 0).flatMap encE)) := by show _ = _; rw [HS1.out, HS2.out, ofL_app]; simp
    clear hb c0 c1 c2 c3 c4 c5 c6 c7 c8 HT
    go_wp2_with fail
    go_loopw [3, 4] (fun a i wr => ∃ (k : Nat) (s0 : ByteArray), a = .string s0 ∧ i = .int .i64 (k : Int) ∧ k ≤ n ∧ Hid (s0 = ofL (encN 2 ++ encN n ++ (ents.take k).flatMap encE)) ∧ s0.size ≤ 10 + 100 * k ∧ Hid (Below w2.heap.size w2 wr)) (fun _ i _ => n - (intOf i).toNat)
    case atStart => exact ⟨0, s1 ++ s2, rfl, rfl, Nat.zero_le _, HSS.out, by rw [ByteArray.size_append]; omega, Below.refl _ _⟩
    case round =>
      obtain ⟨k, s0, rfl, rfl, hk, hS, hsz0, hbw⟩ := hrel
      have HBw : Hid (Below w.heap.size w wr) := HB2.out.trans (hbw.out.mono HB2.out.size)
      obtain ⟨c0, c1, c2, c3, c4, c5, c6, c7, c8⟩ := (HK2.out.below hbw.out z2).nine
      have zr := hbw.out.size
      by_cases hlt : k < n
      · have hlz : (k : Int) < (n : Int) := by omega
        have hk0 : ¬ (k : Int) < 0 := by omega
        obtain ⟨bb, off, en, rfl, hbB, hen, y0, y1, y2, y3⟩ := (HE.out.below HBw.out hB).en hlt
        have hoe := HOE.out en (List.mem_of_getElem? hen)
        have hns := nameB_size hoe.nm
        have hwd := hoe.dg
        have HEX : Hid ((ents.take (k + 1)).flatMap encE = (ents.take k).flatMap encE ++ encE en) := take_flat_snoc hen
        have hbw2 : bb < wr.heap.size := by have := HBw.out.size; omega
        obtain ⟨nm, dir, d1, d2⟩ := en
        simp only at y0 y1 y2 y3 hns HEX hwd
        obtain ⟨dn, hdn⟩ : ∃ dn : Nat, (if dir = true then 1 else 0 : Nat) = dn := ⟨_, rfl⟩
        have hdn1 : dn ≤ 1 := by rw [← hdn]; split <;> omega
        have HDN := Lib.hid hdn
        obtain ⟨x1, hx1⟩ : ∃ x, ofL (encT (toL nm)) = x := ⟨_, rfl⟩
        obtain ⟨x2, hx2⟩ : ∃ x, ofL (encN dn) = x := ⟨_, rfl⟩
        obtain ⟨x3, hx3⟩ : ∃ x, ofL (digB (d1, d2)) = x := ⟨_, rfl⟩
        have hz1 : x1.size ≤ 70 := by
          have h1 := encN_len 5 nm.size (by omega)
          have h2 := size_toL nm
          rw [← hx1, size_ofL]; unfold encT; rw [List.length_append, ← h2]; omega
        have hz2 : x2.size ≤ 6 := by rw [← hx2, size_ofL]; have := encN_len 5 dn (by omega); omega
        have hz3 : x3.size ≤ 16 := by rw [← hx3, size_ofL, digB_len]; omega
        have HX1 := Lib.hid (fun W => txt7_any nm (by omega) W)
        have HX2 := Lib.hid (fun W => num7_any dn (by omega) W)
        have HX3 := Lib.hid (fun W => refBytes_any (d1, d2) hwd W)
        unfold Str7E at HX1 HX2
        unfold digV at HX3
        rw [hx1] at HX1; rw [hx2] at HX2; rw [hx3] at HX3
        have HEE : Hid (s0 ++ x1 ++ x2 ++ x3 = ofL (encN 2 ++ encN n ++ (ents.take (k + 1)).flatMap encE)) := by
          show _ = _
          have he : encE ⟨nm, dir, (d1, d2)⟩ = encT (toL nm) ++ (encN dn ++ digB (d1, d2)) := by rw [← hdn]; rfl
          rw [HEX.out, he, hS.out, ← hx1, ← hx2, ← hx3, ofL_app, ofL_app, ofL_app]
          simp only [List.append_assoc]
        have hq1 : ¬ (9223372036854775807 < s0.size + x1.size) := by omega
        have hq2 : s0.size + x1.size + x2.size ≤ 9223372036854775807 := by omega
        have hq3 : s0.size + x1.size + x2.size + x3.size ≤ 9223372036854775807 := by omega
        have hq4 : (s0 ++ x1 ++ x2 ++ x3).size ≤ 10 + 100 * (k + 1) := by rw [ByteArray.size_append, ByteArray.size_append, ByteArray.size_append]; omega
        have HQ4 := Lib.hid hq4
        clear hx1 hx2 hx3 hen hoe hwd hq4
        go_upto_if 32 with fail
        go_cut [5] from 32 to 32 (fun q wx => q = .int .i64 (dn : Int) ∧ wx = wr)
        case first =>
          cases dir with
          | true =>
            obtain rfl : 1 = dn := by simpa using hdn
            go_wp2_with fail
            go_meet
            exact ⟨rfl, rfl⟩
          | false =>
            obtain rfl : 0 = dn := by simpa using hdn
            go_wp2_with fail
            go_meet
            exact ⟨rfl, rfl⟩
        case rest =>
          obtain ⟨rfl, rfl⟩ := hcut
          go_wp2_with fail
          refine wp_region_stableGD 20 (33 :: 34 :: 35 :: 36 :: 37 :: 38 :: 39 :: 40 :: 41 :: 42 :: 43 :: 44 :: 45 :: 46 :: 47 :: 48 :: 49 :: 50 :: 51 :: 52 :: []) (by kernel_rfl) (by kernel_rfl) (by kernel_rfl) (fun W => Below wc.heap.size wc W) (fun W W' => Below W.heap.size W W')
            (vPhi ((.string s0) :: (.pointer (some ⟨w.heap.size, 2, none⟩)) :: (.slice (some ⟨bb, off, none⟩) n ec) :: (.int .i64 (k : Int)) :: (.pointer (some ⟨bb, off + k * 4, none⟩)) :: (.pointer (some ⟨bb, off + k * 4, none⟩)) :: (.string nm) :: (.string x1) :: (.string (s0 ++ x1)) :: (.int .i64 (dn : Int)) :: (.string x2) :: (.string (s0 ++ x1 ++ x2)) :: (.pointer (some ⟨w.heap.size, 2, none⟩)) :: (.slice (some ⟨bb, off, none⟩) n ec) :: (.int .i64 (k : Int)) :: (.pointer (some ⟨bb, off + k * 4, none⟩)) :: (.pointer (some ⟨bb, off + k * 4 + 2, none⟩)) :: (.agg #[.int .u64 d1, .int .u64 d2]) :: (.string x3) :: (.string (s0 ++ x1 ++ x2 ++ x3)) :: [])) (fun W W' h1 h2 => h1.trans (h2.mono h1.size)) (fun i v W W' h _ => h) (Below.refl _ _).drew ?stepE ?tailE
          case stepE =>
            intro i o vs W hi ho hv hR hphi
            obtain ⟨v0, v1, v2, v3, v4, v5, v6, v7, v8, v9, v10, v11, v12, v13, v14, v15, v16, v17, v18, v19, rfl⟩ := ls20 hv
            simp only [List.zip, List.zipWith, putAll, Act.put, List.setIfInBounds_toArray, List.set]
            have hWz := hR.size
            have g2 := (hR.cell (p := ⟨w.heap.size, 2, none⟩) (by show w.heap.size < _; omega)).trans c2
            have q0 := (hR.cell (p := ⟨bb, off + k * 4, none⟩) (by show bb < _; omega)).trans y0
            have q1 := (hR.cell (p := ⟨bb, off + k * 4 + 1, none⟩) (by show bb < _; omega)).trans y1
            have q2 := (hR.cell (p := ⟨bb, off + k * 4 + 2, none⟩) (by show bb < _; omega)).trans y2
            have q3 := (hR.cell (p := ⟨bb, off + k * 4 + 3, none⟩) (by show bb < _; omega)).trans y3
            match i, hi, ho with
            | 0, _, rfl =>
              exact .inl ⟨rfl, gives_value (v := .string s0) (w' := W) (by go_simp) ⟨Below.refl _ _, fun u hu => by cases hu; rfl⟩⟩
            | 1, _, rfl =>
              exact .inl ⟨rfl, gives_value (v := .pointer (some ⟨w.heap.size, 2, none⟩)) (w' := W) (by go_simp) ⟨Below.refl _ _, fun u hu => by cases hu; rfl⟩⟩
            | 2, _, rfl =>
              have e1 : v1 = _ := hphi ⟨1, .data⟩ (by simp) rfl v1 rfl _ rfl
              subst e1
              exact .inl ⟨rfl, gives_value (v := .slice (some ⟨bb, off, none⟩) n ec) (w' := W) (by go_simp) ⟨Below.refl _ _, fun u hu => by cases hu; rfl⟩⟩
            | 3, _, rfl =>
              exact .inl ⟨rfl, gives_value (v := .int .i64 (k : Int)) (w' := W) (by go_simp) ⟨Below.refl _ _, fun u hu => by cases hu; rfl⟩⟩
            | 4, _, rfl =>
              have e2 : v2 = _ := hphi ⟨2, .data⟩ (by simp) rfl v2 rfl _ rfl
              have e3 : v3 = _ := hphi ⟨3, .data⟩ (by simp) rfl v3 rfl _ rfl
              subst e2 e3
              exact .inl ⟨rfl, gives_value (v := .pointer (some ⟨bb, off + k * 4, none⟩)) (w' := W) (by go_simp) ⟨Below.refl _ _, fun u hu => by cases hu; rfl⟩⟩
            | 5, _, rfl =>
              have e4 : v4 = _ := hphi ⟨4, .data⟩ (by simp) rfl v4 rfl _ rfl
              subst e4
              exact .inl ⟨rfl, gives_value (v := .pointer (some ⟨bb, off + k * 4, none⟩)) (w' := W) (by go_simp) ⟨Below.refl _ _, fun u hu => by cases hu; rfl⟩⟩
            | 6, _, rfl =>
              have e5 : v5 = _ := hphi ⟨5, .data⟩ (by simp) rfl v5 rfl _ rfl
              subst e5
              exact .inl ⟨rfl, gives_value (v := .string nm) (w' := W) (by go_simp) ⟨Below.refl _ _, fun u hu => by cases hu; rfl⟩⟩
            | 7, _, rfl =>
              have e6 : v6 = _ := hphi ⟨6, .data⟩ (by simp) rfl v6 rfl _ rfl
              subst e6
              refine .inl ⟨rfl, gives_call (f := 130) (args := #[.string nm]) (by go_simp) ((HX1.out W).mono ?_)⟩
              rintro e W' ⟨rfl, hb2⟩
              exact ⟨_, rfl, hb2, fun u hu => by cases hu; rfl⟩
            | 8, _, rfl =>
              have e0 : v0 = _ := hphi ⟨0, .data⟩ (by simp) rfl v0 rfl _ rfl
              have e7 : v7 = _ := hphi ⟨7, .data⟩ (by simp) rfl v7 rfl _ rfl
              subst e0 e7
              exact .inl ⟨rfl, gives_value (v := .string (s0 ++ x1)) (w' := W) (by go_simp) ⟨Below.refl _ _, fun u hu => by cases hu; rfl⟩⟩
            | 9, _, rfl =>
              exact .inl ⟨rfl, gives_value (v := .int .i64 (dn : Int)) (w' := W) (by go_simp) ⟨Below.refl _ _, fun u hu => by cases hu; rfl⟩⟩
            | 10, _, rfl =>
              have e9 : v9 = _ := hphi ⟨9, .data⟩ (by simp) rfl v9 rfl _ rfl
              subst e9
              refine .inl ⟨rfl, gives_call (f := 129) (args := #[.int .i64 (dn : Int)]) (by go_simp) ((HX2.out W).mono ?_)⟩
              rintro e W' ⟨rfl, hb2⟩
              exact ⟨_, rfl, hb2, fun u hu => by cases hu; rfl⟩
            | 11, _, rfl =>
              have e8 : v8 = _ := hphi ⟨8, .data⟩ (by simp) rfl v8 rfl _ rfl
              have e10 : v10 = _ := hphi ⟨10, .data⟩ (by simp) rfl v10 rfl _ rfl
              subst e8 e10
              exact .inl ⟨rfl, gives_value (v := .string (s0 ++ x1 ++ x2)) (w' := W) (by go_simp) ⟨Below.refl _ _, fun u hu => by cases hu; rfl⟩⟩
            | 12, _, rfl =>
              exact .inl ⟨rfl, gives_value (v := .pointer (some ⟨w.heap.size, 2, none⟩)) (w' := W) (by go_simp) ⟨Below.refl _ _, fun u hu => by cases hu; rfl⟩⟩
            | 13, _, rfl =>
              have e12 : v12 = _ := hphi ⟨12, .data⟩ (by simp) rfl v12 rfl _ rfl
              subst e12
              exact .inl ⟨rfl, gives_value (v := .slice (some ⟨bb, off, none⟩) n ec) (w' := W) (by go_simp) ⟨Below.refl _ _, fun u hu => by cases hu; rfl⟩⟩
            | 14, _, rfl =>
              exact .inl ⟨rfl, gives_value (v := .int .i64 (k : Int)) (w' := W) (by go_simp) ⟨Below.refl _ _, fun u hu => by cases hu; rfl⟩⟩
            | 15, _, rfl =>
              have e13 : v13 = _ := hphi ⟨13, .data⟩ (by simp) rfl v13 rfl _ rfl
              have e14 : v14 = _ := hphi ⟨14, .data⟩ (by simp) rfl v14 rfl _ rfl
              subst e13 e14
              exact .inl ⟨rfl, gives_value (v := .pointer (some ⟨bb, off + k * 4, none⟩)) (w' := W) (by go_simp) ⟨Below.refl _ _, fun u hu => by cases hu; rfl⟩⟩
            | 16, _, rfl =>
              have e15 : v15 = _ := hphi ⟨15, .data⟩ (by simp) rfl v15 rfl _ rfl
              subst e15
              exact .inl ⟨rfl, gives_value (v := .pointer (some ⟨bb, off + k * 4 + 2, none⟩)) (w' := W) (by go_simp) ⟨Below.refl _ _, fun u hu => by cases hu; rfl⟩⟩
            | 17, _, rfl =>
              have e16 : v16 = _ := hphi ⟨16, .data⟩ (by simp) rfl v16 rfl _ rfl
              subst e16
              exact .inl ⟨rfl, gives_value (v := .agg #[.int .u64 d1, .int .u64 d2]) (w' := W) (by go_simp) ⟨Below.refl _ _, fun u hu => by cases hu; rfl⟩⟩
            | 18, _, rfl =>
              have e17 : v17 = _ := hphi ⟨17, .data⟩ (by simp) rfl v17 rfl _ rfl
              subst e17
              refine .inl ⟨rfl, gives_call (f := 131) (args := #[.agg #[.int .u64 d1, .int .u64 d2]]) (by go_simp) ((HX3.out W).mono ?_)⟩
              rintro e W' ⟨rfl, hb2⟩
              exact ⟨_, rfl, hb2, fun u hu => by cases hu; rfl⟩
            | 19, _, rfl =>
              have e11 : v11 = _ := hphi ⟨11, .data⟩ (by simp) rfl v11 rfl _ rfl
              have e18 : v18 = _ := hphi ⟨18, .data⟩ (by simp) rfl v18 rfl _ rfl
              subst e11 e18
              exact .inl ⟨rfl, gives_value (v := .string (s0 ++ x1 ++ x2 ++ x3)) (w' := W) (by go_simp) ⟨Below.refl _ _, fun u hu => by cases hu; rfl⟩⟩
            | i + 20, hi, _ => exact absurd hi (by omega)
          case tailE =>
            intro vs W hv hR hphi
            obtain ⟨v0, v1, v2, v3, v4, v5, v6, v7, v8, v9, v10, v11, v12, v13, v14, v15, v16, v17, v18, v19, rfl⟩ := ls20 hv
            simp only [List.zip, List.zipWith, putAll, Act.put, List.setIfInBounds_toArray, List.set, List.drop]
            have e0 : v0 = _ := hphi 0 v0 rfl _ rfl
            have e1 : v1 = _ := hphi 1 v1 rfl _ rfl
            have e2 : v2 = _ := hphi 2 v2 rfl _ rfl
            have e3 : v3 = _ := hphi 3 v3 rfl _ rfl
            have e4 : v4 = _ := hphi 4 v4 rfl _ rfl
            have e5 : v5 = _ := hphi 5 v5 rfl _ rfl
            have e6 : v6 = _ := hphi 6 v6 rfl _ rfl
            have e7 : v7 = _ := hphi 7 v7 rfl _ rfl
            have e8 : v8 = _ := hphi 8 v8 rfl _ rfl
            have e9 : v9 = _ := hphi 9 v9 rfl _ rfl
            have e10 : v10 = _ := hphi 10 v10 rfl _ rfl
            have e11 : v11 = _ := hphi 11 v11 rfl _ rfl
            have e12 : v12 = _ := hphi 12 v12 rfl _ rfl
            have e13 : v13 = _ := hphi 13 v13 rfl _ rfl
            have e14 : v14 = _ := hphi 14 v14 rfl _ rfl
            have e15 : v15 = _ := hphi 15 v15 rfl _ rfl
            have e16 : v16 = _ := hphi 16 v16 rfl _ rfl
            have e17 : v17 = _ := hphi 17 v17 rfl _ rfl
            have e18 : v18 = _ := hphi 18 v18 rfl _ rfl
            have e19 : v19 = _ := hphi 19 v19 rfl _ rfl
            subst e0 e1 e2 e3 e4 e5 e6 e7 e8 e9 e10 e11 e12 e13 e14 e15 e16 e17 e18 e19
            clear hphi hv
            have HBz : Hid (Below w2.heap.size w2 W) := hbw.out.trans (hR.mono zr)
            clear hR
            go_wp2_with fail
            go_roundw
            case rel => exact ⟨k + 1, _, rfl, by go_num, hlt, HEE.out, HQ4.out, HBz.out⟩
            case measure => simp [intOf]; omega
      · have hlz : ¬ (k : Int) < (n : Int) := by omega
        have HSE : Hid (s0 = ofL (encN 2 ++ encN n ++ ents.flatMap encE)) := by
          have := hS.out; rw [List.take_of_length_le (by rw [HEL.out]; omega)] at this; exact this
        go_wp2_with fail
        go_ret
        exact ⟨by rw [HENC.out, ← List.append_assoc, ← HSE.out]; rfl, HBw.out⟩
  | commit k d e c =>
    have HENC : Hid (encO o = encN 3 ++ (digB o.tree ++ (encN o.pars.length ++ (o.pars.flatMap digB ++ (encT (toL o.auth) ++ (encN o.time.toNat ++ encT (toL o.msg))))))) := by show _ = _; unfold encO encB; rw [if_neg (by omega), if_pos k, k]; rfl
    obtain ⟨kind, data, ents, ⟨t1, t2⟩, pars, auth, time, msg⟩ := o
    obtain ⟨eA, en, ec, pA, n, pc⟩ := s
    simp only at k d e HENC hpl HP
    subst k d e
    simp only [obV, obC] at hW HK0 ⊢
    have hn : n ≤ 8 := by rw [← hpl]; exact c.pars.few
    have hwt : WfD (t1, t2) := c.wf
    have HOP := Lib.hid c.pars.wf
    have HPL := Lib.hid hpl
    have hau : auth.size ≤ 24 := nameB_size c.auth
    have hmg : msg.size ≤ 200 := c.msg
    have ht0 : 0 ≤ time := c.t0
    have ht1 : time ≤ 1099511627776 := c.t1
    obtain ⟨tn, rfl⟩ := Int.eq_ofNat_of_zero_le ht0
    have htn : tn ≤ 1099511627776 := by omega
    simp only [Int.toNat_natCast] at HENC
    rw [hpl] at HENC
    clear hm c HE hel hpl ht0 ht1
    obtain ⟨c0, c1, c2, c3, c4, c5, c6, c7, c8⟩ := HK0.out.nine
    have HN1 := Lib.hid (num7_any 3 (by omega) W0)
    have hlk : (encN 3).length = 1 := by rw [encN_small (by omega)]; rfl
    go_enter Tryz.func103, Tryz.ntmps103
    go_wp2_with (first | (go_at_call 129; refine HN1.out.mono ?_; rintro e w1 ⟨rfl, hb⟩; refine halt_ ?_))
    refine unhalt ?_
    have HB1 : Hid (Below w.heap.size w w1) := HB0.out.trans (hb.mono HB0.out.size)
    have HK1 := Lib.hid (HK0.out.below hb zk)
    have z1 : w.heap.size < w1.heap.size := HK1.out.lt
    obtain ⟨s1, hs1⟩ : ∃ s1, ofL (encN 3) = s1 := ⟨_, rfl⟩
    rw [hs1]
    have HS1 : Hid (s1 = ofL (encN 3)) := hs1.symm
    have hz1 : s1.size ≤ 1 := by rw [← hs1, size_ofL]; omega
    clear hb hW c0 c1 c2 c3 c4 c5 c6 c7 c8 HN1 hs1
    obtain ⟨c0, c1, c2, c3, c4, c5, c6, c7, c8⟩ := HK1.out.nine
    obtain ⟨x1, hx1⟩ : ∃ x, ofL (digB (t1, t2)) = x := ⟨_, rfl⟩
    obtain ⟨x2, hx2⟩ : ∃ x, ofL (encN n) = x := ⟨_, rfl⟩
    have hy1 : x1.size ≤ 16 := by rw [← hx1, size_ofL, digB_len]; omega
    have hy2 : x2.size ≤ 6 := by rw [← hx2, size_ofL]; exact encN_len 5 n (by omega)
    have HX1 := Lib.hid (fun W => refBytes_any (t1, t2) hwt W)
    have HX2 := Lib.hid (fun W => num7_any n (by omega) W)
    unfold Str7E at HX2
    unfold digV at HX1
    rw [hx1] at HX1; rw [hx2] at HX2
    have HSS : Hid (s1 ++ x1 ++ x2 = ofL (encN 3 ++ digB (t1, t2) ++ encN n ++ (pars.take 0).flatMap digB)) := by show _ = _; rw [HS1.out, ← hx1, ← hx2, ofL_app, ofL_app]; simp
    have hq1 : ¬ (9223372036854775807 < s1.size + x1.size) := by omega
    have hq2 : s1.size + x1.size + x2.size ≤ 9223372036854775807 := by omega
    have hq4 : (s1 ++ x1 ++ x2).size ≤ 30 := by rw [ByteArray.size_append, ByteArray.size_append]; omega
    have HQ4 := Lib.hid hq4
    clear hx1 hx2 hq4
    go_wp2_with fail
    refine wp_region_stableGD 10 (56 :: 57 :: 58 :: 59 :: 60 :: 61 :: 62 :: 63 :: 64 :: 65 :: []) (by kernel_rfl) (by kernel_rfl) (by kernel_rfl) (fun W => Below w1.heap.size w1 W) (fun W W' => Below W.heap.size W W')
      (vPhi ((.string s1) :: (.pointer (some ⟨w.heap.size, 3, none⟩)) :: (.agg #[.int .u64 t1, .int .u64 t2]) :: (.string x1) :: (.string (s1 ++ x1)) :: (.pointer (some ⟨w.heap.size, 5, none⟩)) :: (.slice pA n pc) :: (.int .i64 (n : Int)) :: (.string x2) :: (.string (s1 ++ x1 ++ x2)) :: [])) (fun W W' h1 h2 => h1.trans (h2.mono h1.size)) (fun i v W W' h _ => h) (Below.refl _ _).drew ?stepA ?tailA
    case stepA =>
      intro i o vs W hi ho hv hR hphi
      obtain ⟨v0, v1, v2, v3, v4, v5, v6, v7, v8, v9, rfl⟩ := ls10 hv
      simp only [List.zip, List.zipWith, putAll, Act.put, List.setIfInBounds_toArray, List.set]
      have hWz := hR.size
      have g0 := (hR.cell (p := ⟨w.heap.size, 0, none⟩) (by show w.heap.size < _; omega)).trans c0
      have g1 := (hR.cell (p := ⟨w.heap.size, 1, none⟩) (by show w.heap.size < _; omega)).trans c1
      have g2 := (hR.cell (p := ⟨w.heap.size, 2, none⟩) (by show w.heap.size < _; omega)).trans c2
      have g3 := (hR.cell (p := ⟨w.heap.size, 3, none⟩) (by show w.heap.size < _; omega)).trans c3
      have g4 := (hR.cell (p := ⟨w.heap.size, 4, none⟩) (by show w.heap.size < _; omega)).trans c4
      have g5 := (hR.cell (p := ⟨w.heap.size, 5, none⟩) (by show w.heap.size < _; omega)).trans c5
      have g6 := (hR.cell (p := ⟨w.heap.size, 6, none⟩) (by show w.heap.size < _; omega)).trans c6
      have g7 := (hR.cell (p := ⟨w.heap.size, 7, none⟩) (by show w.heap.size < _; omega)).trans c7
      have g8 := (hR.cell (p := ⟨w.heap.size, 8, none⟩) (by show w.heap.size < _; omega)).trans c8
      match i, hi, ho with
      | 0, _, rfl =>
        exact .inl ⟨rfl, gives_value (v := .string s1) (w' := W) (by go_simp) ⟨Below.refl _ _, fun u hu => by cases hu; rfl⟩⟩
      | 1, _, rfl =>
        exact .inl ⟨rfl, gives_value (v := .pointer (some ⟨w.heap.size, 3, none⟩)) (w' := W) (by go_simp) ⟨Below.refl _ _, fun u hu => by cases hu; rfl⟩⟩
      | 2, _, rfl =>
        have e1 : v1 = _ := hphi ⟨1, .data⟩ (by simp) rfl v1 rfl _ rfl
        subst e1
        exact .inl ⟨rfl, gives_value (v := .agg #[.int .u64 t1, .int .u64 t2]) (w' := W) (by go_simp) ⟨Below.refl _ _, fun u hu => by cases hu; rfl⟩⟩
      | 3, _, rfl =>
        have e2 : v2 = _ := hphi ⟨2, .data⟩ (by simp) rfl v2 rfl _ rfl
        subst e2
        refine .inl ⟨rfl, gives_call (f := 131) (args := #[.agg #[.int .u64 t1, .int .u64 t2]]) (by go_simp) ((HX1.out W).mono ?_)⟩
        rintro e W' ⟨rfl, hb2⟩
        exact ⟨_, rfl, hb2, fun u hu => by cases hu; rfl⟩
      | 4, _, rfl =>
        have e0 : v0 = _ := hphi ⟨0, .data⟩ (by simp) rfl v0 rfl _ rfl
        have e3 : v3 = _ := hphi ⟨3, .data⟩ (by simp) rfl v3 rfl _ rfl
        subst e0 e3
        exact .inl ⟨rfl, gives_value (v := .string (s1 ++ x1)) (w' := W) (by go_simp) ⟨Below.refl _ _, fun u hu => by cases hu; rfl⟩⟩
      | 5, _, rfl =>
        exact .inl ⟨rfl, gives_value (v := .pointer (some ⟨w.heap.size, 5, none⟩)) (w' := W) (by go_simp) ⟨Below.refl _ _, fun u hu => by cases hu; rfl⟩⟩
      | 6, _, rfl =>
        have e5 : v5 = _ := hphi ⟨5, .data⟩ (by simp) rfl v5 rfl _ rfl
        subst e5
        exact .inl ⟨rfl, gives_value (v := .slice pA n pc) (w' := W) (by go_simp) ⟨Below.refl _ _, fun u hu => by cases hu; rfl⟩⟩
      | 7, _, rfl =>
        have e6 : v6 = _ := hphi ⟨6, .data⟩ (by simp) rfl v6 rfl _ rfl
        subst e6
        exact .inl ⟨rfl, gives_value (v := .int .i64 (n : Int)) (w' := W) (by go_simp) ⟨Below.refl _ _, fun u hu => by cases hu; rfl⟩⟩
      | 8, _, rfl =>
        have e7 : v7 = _ := hphi ⟨7, .data⟩ (by simp) rfl v7 rfl _ rfl
        subst e7
        refine .inl ⟨rfl, gives_call (f := 129) (args := #[.int .i64 (n : Int)]) (by go_simp) ((HX2.out W).mono ?_)⟩
        rintro e W' ⟨rfl, hb2⟩
        exact ⟨_, rfl, hb2, fun u hu => by cases hu; rfl⟩
      | 9, _, rfl =>
        have e4 : v4 = _ := hphi ⟨4, .data⟩ (by simp) rfl v4 rfl _ rfl
        have e8 : v8 = _ := hphi ⟨8, .data⟩ (by simp) rfl v8 rfl _ rfl
        subst e4 e8
        exact .inl ⟨rfl, gives_value (v := .string (s1 ++ x1 ++ x2)) (w' := W) (by go_simp) ⟨Below.refl _ _, fun u hu => by cases hu; rfl⟩⟩
      | i + 10, hi, _ => exact absurd hi (by omega)
    case tailA =>
      intro vs W hv hR hphi
      obtain ⟨v0, v1, v2, v3, v4, v5, v6, v7, v8, v9, rfl⟩ := ls10 hv
      simp only [List.zip, List.zipWith, putAll, Act.put, List.setIfInBounds_toArray, List.set, List.drop]
      have e0 : v0 = _ := hphi 0 v0 rfl _ rfl
      have e1 : v1 = _ := hphi 1 v1 rfl _ rfl
      have e2 : v2 = _ := hphi 2 v2 rfl _ rfl
      have e3 : v3 = _ := hphi 3 v3 rfl _ rfl
      have e4 : v4 = _ := hphi 4 v4 rfl _ rfl
      have e5 : v5 = _ := hphi 5 v5 rfl _ rfl
      have e6 : v6 = _ := hphi 6 v6 rfl _ rfl
      have e7 : v7 = _ := hphi 7 v7 rfl _ rfl
      have e8 : v8 = _ := hphi 8 v8 rfl _ rfl
      have e9 : v9 = _ := hphi 9 v9 rfl _ rfl
      subst e0 e1 e2 e3 e4 e5 e6 e7 e8 e9
      clear hphi hv
      have HB2 : Hid (Below w.heap.size w W) := HB1.out.trans (hR.mono HB1.out.size)
      have HK2 := Lib.hid (HK1.out.below hR z1)
      have z2 : w.heap.size < W.heap.size := HK2.out.lt
      obtain ⟨w2, hw2⟩ : ∃ w2, w2 = W := ⟨_, rfl⟩
      subst hw2
      clear hR c0 c1 c2 c3 c4 c5 c6 c7 c8
      obtain ⟨c0, c1, c2, c3, c4, c5, c6, c7, c8⟩ := HK2.out.nine
      go_wp2_with fail
      go_loopw [3, 6] (fun a i wr => ∃ (k : Nat) (s0 : ByteArray), a = .string s0 ∧ i = .int .i64 (k : Int) ∧ k ≤ n ∧ Hid (s0 = ofL (encN 3 ++ digB (t1, t2) ++ encN n ++ (pars.take k).flatMap digB)) ∧ s0.size ≤ 30 + 16 * k ∧ Hid (Below w2.heap.size w2 wr)) (fun _ i _ => n - (intOf i).toNat)
      case atStart => exact ⟨0, s1 ++ x1 ++ x2, rfl, rfl, Nat.zero_le _, HSS.out, by have := HQ4.out; omega, Below.refl _ _⟩
      case round =>
        obtain ⟨k, s0, rfl, rfl, hk, hS, hsz0, hbw⟩ := hrel
        have HBw : Hid (Below w.heap.size w wr) := HB2.out.trans (hbw.out.mono HB2.out.size)
        clear c0 c1 c2 c3 c4 c5 c6 c7 c8
        obtain ⟨c0, c1, c2, c3, c4, c5, c6, c7, c8⟩ := (HK2.out.below hbw.out z2).nine
        have zr := hbw.out.size
        clear hq1 hq2
        by_cases hlt : k < n
        · have hlz : (k : Int) < (n : Int) := by omega
          have hk0 : ¬ (k : Int) < 0 := by omega
          obtain ⟨bb, off, d, rfl, hbB, hd, y0, y1⟩ := (HP.out.below HBw.out hB).dg hlt
          have hwd := HOP.out d (List.mem_of_getElem? hd)
          have HEX : Hid ((pars.take (k + 1)).flatMap digB = (pars.take k).flatMap digB ++ digB d) := take_flat_snoc hd
          obtain ⟨d1, d2⟩ := d
          simp only at y0 y1
          obtain ⟨x3, hx3⟩ : ∃ x, ofL (digB (d1, d2)) = x := ⟨_, rfl⟩
          have hy3 : x3.size ≤ 16 := by rw [← hx3, size_ofL, digB_len]; omega
          have HX3 := Lib.hid (refBytes_any (d1, d2) hwd wr)
          unfold digV at HX3
          rw [hx3] at HX3
          have HEE : Hid (s0 ++ x3 = ofL (encN 3 ++ digB (t1, t2) ++ encN n ++ (pars.take (k + 1)).flatMap digB)) := by
            show _ = _
            rw [HEX.out, hS.out, ← hx3, ofL_app]
            simp only [List.append_assoc]
          have hq1 : ¬ (9223372036854775807 < s0.size + x3.size) := by omega
          have HQ5 : Hid ((s0 ++ x3).size ≤ 30 + 16 * (k + 1)) := by show _ ≤ _; rw [ByteArray.size_append]; omega
          clear hx3 hd hwd
          go_wp2_with (first | (go_at_call 131; refine HX3.out.mono ?_; rintro e w5 ⟨rfl, hb5⟩; refine halt_ ?_))
          refine unhalt ?_
          have HB5 : Hid (Below w2.heap.size w2 w5) := hbw.out.trans (hb5.mono zr)
          clear hb5
          go_wp2_with fail
          go_roundw
          case rel => exact ⟨k + 1, _, rfl, by go_num, hlt, HEE.out, HQ5.out, HB5.out⟩
          case measure => simp [intOf]; omega
        · have hlz : ¬ (k : Int) < (n : Int) := by omega
          have HSE : Hid (s0 = ofL (encN 3 ++ digB (t1, t2) ++ encN n ++ pars.flatMap digB)) := by
            have := hS.out; rw [List.take_of_length_le (by rw [HPL.out]; omega)] at this; exact this
          clear HX1 HX2 HSS
          obtain ⟨x1, hx1⟩ : ∃ x, ofL (encT (toL auth)) = x := ⟨_, rfl⟩
          obtain ⟨x2, hx2⟩ : ∃ x, ofL (encN tn) = x := ⟨_, rfl⟩
          obtain ⟨x3, hx3⟩ : ∃ x, ofL (encT (toL msg)) = x := ⟨_, rfl⟩
          have hz1 : x1.size ≤ 70000 := by rw [← hx1, size_ofL]; exact encT_len (by omega)
          have hz2 : x2.size ≤ 6 := by rw [← hx2, size_ofL]; exact encN_len 5 tn (by omega)
          have hz3 : x3.size ≤ 70000 := by rw [← hx3, size_ofL]; exact encT_len (by omega)
          have HX1 := Lib.hid (fun W => txt7_any auth (by omega) W)
          have HX2 := Lib.hid (fun W => num7_any tn htn W)
          have HX3 := Lib.hid (fun W => txt7_any msg (by omega) W)
          unfold Str7E at HX1 HX2 HX3
          rw [hx1] at HX1; rw [hx2] at HX2; rw [hx3] at HX3
          have HEE : Hid (s0 ++ x1 ++ x2 ++ x3 = ofL (encO ⟨3, ⟨#[]⟩, [], (t1, t2), pars, auth, (tn : Int), msg⟩)) := by
            show _ = _
            rw [HENC.out, HSE.out, ← hx1, ← hx2, ← hx3, ofL_app, ofL_app, ofL_app]
            simp only [List.append_assoc]
          have hq1 : ¬ (9223372036854775807 < s0.size + x1.size) := by omega
          have hq2 : s0.size + x1.size + x2.size ≤ 9223372036854775807 := by omega
          have hq3 : s0.size + x1.size + x2.size + x3.size ≤ 9223372036854775807 := by omega
          clear hx1 hx2 hx3
          go_wp2_with fail
          refine wp_region_stableGD 13 (81 :: 82 :: 83 :: 84 :: 85 :: 86 :: 87 :: 88 :: 89 :: 90 :: 91 :: 92 :: 93 :: []) (by kernel_rfl) (by kernel_rfl) (by kernel_rfl) (fun W => Below wr.heap.size wr W) (fun W W' => Below W.heap.size W W')
            (vPhi ((.string s0) :: (.pointer (some ⟨w.heap.size, 6, none⟩)) :: (.string auth) :: (.string x1) :: (.string (s0 ++ x1)) :: (.pointer (some ⟨w.heap.size, 7, none⟩)) :: (.int .i64 (tn : Int)) :: (.string x2) :: (.string (s0 ++ x1 ++ x2)) :: (.pointer (some ⟨w.heap.size, 8, none⟩)) :: (.string msg) :: (.string x3) :: (.string (s0 ++ x1 ++ x2 ++ x3)) :: [])) (fun W W' h1 h2 => h1.trans (h2.mono h1.size)) (fun i v W W' h _ => h) (Below.refl _ _).drew ?stepC ?tailC
          case stepC =>
            intro i o vs W hi ho hv hR hphi
            obtain ⟨v0, v1, v2, v3, v4, v5, v6, v7, v8, v9, v10, v11, v12, rfl⟩ := ls13 hv
            simp only [List.zip, List.zipWith, putAll, Act.put, List.setIfInBounds_toArray, List.set]
            have hWz := hR.size
            have g0 := (hR.cell (p := ⟨w.heap.size, 0, none⟩) (by show w.heap.size < _; omega)).trans c0
            have g1 := (hR.cell (p := ⟨w.heap.size, 1, none⟩) (by show w.heap.size < _; omega)).trans c1
            have g2 := (hR.cell (p := ⟨w.heap.size, 2, none⟩) (by show w.heap.size < _; omega)).trans c2
            have g3 := (hR.cell (p := ⟨w.heap.size, 3, none⟩) (by show w.heap.size < _; omega)).trans c3
            have g4 := (hR.cell (p := ⟨w.heap.size, 4, none⟩) (by show w.heap.size < _; omega)).trans c4
            have g5 := (hR.cell (p := ⟨w.heap.size, 5, none⟩) (by show w.heap.size < _; omega)).trans c5
            have g6 := (hR.cell (p := ⟨w.heap.size, 6, none⟩) (by show w.heap.size < _; omega)).trans c6
            have g7 := (hR.cell (p := ⟨w.heap.size, 7, none⟩) (by show w.heap.size < _; omega)).trans c7
            have g8 := (hR.cell (p := ⟨w.heap.size, 8, none⟩) (by show w.heap.size < _; omega)).trans c8
            match i, hi, ho with
            | 0, _, rfl =>
              exact .inl ⟨rfl, gives_value (v := .string s0) (w' := W) (by go_simp) ⟨Below.refl _ _, fun u hu => by cases hu; rfl⟩⟩
            | 1, _, rfl =>
              exact .inl ⟨rfl, gives_value (v := .pointer (some ⟨w.heap.size, 6, none⟩)) (w' := W) (by go_simp) ⟨Below.refl _ _, fun u hu => by cases hu; rfl⟩⟩
            | 2, _, rfl =>
              have e1 : v1 = _ := hphi ⟨1, .data⟩ (by simp) rfl v1 rfl _ rfl
              subst e1
              exact .inl ⟨rfl, gives_value (v := .string auth) (w' := W) (by go_simp) ⟨Below.refl _ _, fun u hu => by cases hu; rfl⟩⟩
            | 3, _, rfl =>
              have e2 : v2 = _ := hphi ⟨2, .data⟩ (by simp) rfl v2 rfl _ rfl
              subst e2
              refine .inl ⟨rfl, gives_call (f := 130) (args := #[.string auth]) (by go_simp) ((HX1.out W).mono ?_)⟩
              rintro e W' ⟨rfl, hb2⟩
              exact ⟨_, rfl, hb2, fun u hu => by cases hu; rfl⟩
            | 4, _, rfl =>
              have e0 : v0 = _ := hphi ⟨0, .data⟩ (by simp) rfl v0 rfl _ rfl
              have e3 : v3 = _ := hphi ⟨3, .data⟩ (by simp) rfl v3 rfl _ rfl
              subst e0 e3
              exact .inl ⟨rfl, gives_value (v := .string (s0 ++ x1)) (w' := W) (by go_simp) ⟨Below.refl _ _, fun u hu => by cases hu; rfl⟩⟩
            | 5, _, rfl =>
              exact .inl ⟨rfl, gives_value (v := .pointer (some ⟨w.heap.size, 7, none⟩)) (w' := W) (by go_simp) ⟨Below.refl _ _, fun u hu => by cases hu; rfl⟩⟩
            | 6, _, rfl =>
              have e5 : v5 = _ := hphi ⟨5, .data⟩ (by simp) rfl v5 rfl _ rfl
              subst e5
              exact .inl ⟨rfl, gives_value (v := .int .i64 (tn : Int)) (w' := W) (by go_simp) ⟨Below.refl _ _, fun u hu => by cases hu; rfl⟩⟩
            | 7, _, rfl =>
              have e6 : v6 = _ := hphi ⟨6, .data⟩ (by simp) rfl v6 rfl _ rfl
              subst e6
              refine .inl ⟨rfl, gives_call (f := 129) (args := #[.int .i64 (tn : Int)]) (by go_simp) ((HX2.out W).mono ?_)⟩
              rintro e W' ⟨rfl, hb2⟩
              exact ⟨_, rfl, hb2, fun u hu => by cases hu; rfl⟩
            | 8, _, rfl =>
              have e4 : v4 = _ := hphi ⟨4, .data⟩ (by simp) rfl v4 rfl _ rfl
              have e7 : v7 = _ := hphi ⟨7, .data⟩ (by simp) rfl v7 rfl _ rfl
              subst e4 e7
              exact .inl ⟨rfl, gives_value (v := .string (s0 ++ x1 ++ x2)) (w' := W) (by go_simp) ⟨Below.refl _ _, fun u hu => by cases hu; rfl⟩⟩
            | 9, _, rfl =>
              exact .inl ⟨rfl, gives_value (v := .pointer (some ⟨w.heap.size, 8, none⟩)) (w' := W) (by go_simp) ⟨Below.refl _ _, fun u hu => by cases hu; rfl⟩⟩
            | 10, _, rfl =>
              have e9 : v9 = _ := hphi ⟨9, .data⟩ (by simp) rfl v9 rfl _ rfl
              subst e9
              exact .inl ⟨rfl, gives_value (v := .string msg) (w' := W) (by go_simp) ⟨Below.refl _ _, fun u hu => by cases hu; rfl⟩⟩
            | 11, _, rfl =>
              have e10 : v10 = _ := hphi ⟨10, .data⟩ (by simp) rfl v10 rfl _ rfl
              subst e10
              refine .inl ⟨rfl, gives_call (f := 130) (args := #[.string msg]) (by go_simp) ((HX3.out W).mono ?_)⟩
              rintro e W' ⟨rfl, hb2⟩
              exact ⟨_, rfl, hb2, fun u hu => by cases hu; rfl⟩
            | 12, _, rfl =>
              have e8 : v8 = _ := hphi ⟨8, .data⟩ (by simp) rfl v8 rfl _ rfl
              have e11 : v11 = _ := hphi ⟨11, .data⟩ (by simp) rfl v11 rfl _ rfl
              subst e8 e11
              exact .inl ⟨rfl, gives_value (v := .string (s0 ++ x1 ++ x2 ++ x3)) (w' := W) (by go_simp) ⟨Below.refl _ _, fun u hu => by cases hu; rfl⟩⟩
            | i + 13, hi, _ => exact absurd hi (by omega)
          case tailC =>
            intro vs W hv hR hphi
            obtain ⟨v0, v1, v2, v3, v4, v5, v6, v7, v8, v9, v10, v11, v12, rfl⟩ := ls13 hv
            simp only [List.zip, List.zipWith, putAll, Act.put, List.setIfInBounds_toArray, List.set, List.drop]
            have e0 : v0 = _ := hphi 0 v0 rfl _ rfl
            have e1 : v1 = _ := hphi 1 v1 rfl _ rfl
            have e2 : v2 = _ := hphi 2 v2 rfl _ rfl
            have e3 : v3 = _ := hphi 3 v3 rfl _ rfl
            have e4 : v4 = _ := hphi 4 v4 rfl _ rfl
            have e5 : v5 = _ := hphi 5 v5 rfl _ rfl
            have e6 : v6 = _ := hphi 6 v6 rfl _ rfl
            have e7 : v7 = _ := hphi 7 v7 rfl _ rfl
            have e8 : v8 = _ := hphi 8 v8 rfl _ rfl
            have e9 : v9 = _ := hphi 9 v9 rfl _ rfl
            have e10 : v10 = _ := hphi 10 v10 rfl _ rfl
            have e11 : v11 = _ := hphi 11 v11 rfl _ rfl
            have e12 : v12 = _ := hphi 12 v12 rfl _ rfl
            subst e0 e1 e2 e3 e4 e5 e6 e7 e8 e9 e10 e11 e12
            clear hphi hv
            have HBz : Hid (Below w.heap.size w W) := HBw.out.trans (hR.mono HBw.out.size)
            clear hR
            go_wp2_with fail
            go_ret
            exact ⟨by rw [← HEE.out]; rfl, HBz.out⟩
end Go.Proofs.YtlcecobipgmafaaGreatDoor

namespace Go.Proofs.YtlcecobipgmafaaGreatDoor
open Go.RowKit

structure ObB (o : Ob) : Prop where
  tree : WfD o.tree
  pars : ∀ d ∈ o.pars, WfD d
  auth : o.auth.size ≤ 1000000
  msg : o.msg.size ≤ 1000000
  t0 : 0 ≤ o.time
  t1 : o.time ≤ 1099511627776
  es : ∀ e ∈ o.ents, e.nm.size ≤ 1000000
  ew : ∀ e ∈ o.ents, WfD e.dg
set_option maxHeartbeats 2000000 in
theorem check7_any (o : Ob) (s : Osl) (B : Nat) (w : World) (hm : ObM w B o s) (hB : B ≤ w.heap.size) (hb : ObB o) :
    Calls Tryz.prog 102 #[obV o s] w (ChE (OkO o) w) := by
  obtain ⟨W0, hW⟩ : ∃ W, w.alloc (.cells (obC o s) 75) = W := ⟨_, rfl⟩
  have HB0 : Hid (Below w.heap.size w W0) := by rw [← hW]; exact (Below.refl _ w).alloc (Nat.le_refl _) _
  have HK0 : Hid (Bk W0 w.heap.size 75 (obC o s)) := by rw [← hW]; exact Bk.new w _ _
  have zk : w.heap.size < W0.heap.size := HK0.out.lt
  have HM := Lib.hid hm
  have HF := Lib.hid (fields7_any o s B W0 (hm.below (HB0.out.mono hB) (Nat.le_refl _)) (by omega) hb.tree hb.pars hb.auth hb.msg hb.t0 hb.t1 hb.es hb.ew)
  have HE := Lib.hid (fun W h1 h2 h3 => encode7_any o s B W h1 h2 h3)
  have HOF : Hid (OkO o → OkF o) := fun h => h.f
  have HOL : Hid (OkO o → (encO o).length ≤ 65536) := fun h => h.len
  have HOK : Hid (OkF o → (encO o).length ≤ 65536 → OkO o) := fun h1 h2 => ⟨h1, h2⟩
  obtain ⟨bs, hbs⟩ : ∃ bs, ofL (encO o) = bs := ⟨_, rfl⟩
  have hsz : bs.size = (encO o).length := by rw [← hbs]; rfl
  unfold Str7E at HE
  rw [hbs] at HE
  rw [← hsz] at HOL HOK
  generalize OkO o = p at *
  generalize hq : OkF o = q at *
  obtain ⟨kind, data, ents, ⟨t1, t2⟩, pars, auth, time, msg⟩ := o
  obtain ⟨eA, en, ec, pA, pn, pc⟩ := s
  simp only [obV, obC] at hW HK0 HF HE ⊢
  obtain ⟨c0, c1, c2, c3, c4, c5, c6, c7, c8⟩ := HK0.out.nine
  clear hm hbs hsz hb hq
  go_enter Tryz.func102, Tryz.ntmps102
  go_wp2_with fail
  refine HF.out.mono ?_
  rintro e w1 ⟨z, rfl, hz, hb1⟩
  have HZ := Lib.hid hz
  have HB1 : Hid (Below w.heap.size w w1) := HB0.out.trans (hb1.mono HB0.out.size)
  have HK1 := Lib.hid (HK0.out.below hb1 zk)
  clear hz hb1 hW c0 c1 c2 c3 c4 c5 c6 c7 c8
  obtain ⟨c0, c1, c2, c3, c4, c5, c6, c7, c8⟩ := HK1.out.nine
  by_cases h0 : z = 0
  case neg =>
    have hzn : (z != 0) = true := by rw [bne_iff_ne]; exact h0
    have HN : Hid (¬ p) := fun h => h0 (HZ.out.2 (HOF.out h))
    have HZN := Lib.hid h0
    clear h0
    go_wp2_with fail
    go_ret
    exact ChE.no HZN.out HN.out HB1.out
  subst h0
  have HQ := Lib.hid (HZ.out.1 rfl)
  go_wp2_with (first | (go_at_call 103; refine (HE.out w1 (HM.out.below (HB1.out.mono hB) (Nat.le_refl _)) (by have := HB1.out.size; omega) HQ.out).mono ?_; rintro e w2 ⟨rfl, hb2⟩; refine halt_ ?_))
  refine unhalt ?_
  have HB2 : Hid (Below w.heap.size w w2) := HB1.out.trans (hb2.mono HB1.out.size)
  clear hb2
  by_cases hl : 65536 < bs.size
  · have hlz : (65536 : Int) < (bs.size : Int) := by omega
    have HN : Hid (¬ p) := fun h => by have := HOL.out h; omega
    clear hl
    go_wp2_with fail
    go_ret
    exact ChE.no (by decide) HN.out HB2.out
  · have hlz : ¬ (65536 : Int) < (bs.size : Int) := by omega
    have HY := Lib.hid (HOK.out HQ.out (by omega))
    clear hl
    go_wp2_with fail
    go_ret
    exact ChE.yes HY.out HB2.out
def EnP (p : Prop) (bs : ByteArray) (w : World) (e : Ending) (w' : World) : Prop := ((p ∧ e = .returned (.tuple #[.string bs, .int .i64 0])) ∨ (¬ p ∧ ∃ z, z ≠ 0 ∧ e = .returned (.tuple #[.string ⟨#[]⟩, .int .i64 z]))) ∧ Below w.heap.size w w'
def En7 (o : Ob) (w : World) (e : Ending) (w' : World) : Prop := EnP (OkO o) (ofL (encO o)) w e w'
set_option maxHeartbeats 2000000 in
theorem encodeF7_any (o : Ob) (s : Osl) (B : Nat) (w : World) (hm : ObM w B o s) (hB : B ≤ w.heap.size) (hb : ObB o) :
    Calls Tryz.prog 68 #[obV o s] w (En7 o w) := by
  obtain ⟨W0, hW⟩ : ∃ W, w.alloc (.cells (obC o s) 75) = W := ⟨_, rfl⟩
  have HB0 : Hid (Below w.heap.size w W0) := by rw [← hW]; exact (Below.refl _ w).alloc (Nat.le_refl _) _
  have HK0 : Hid (Bk W0 w.heap.size 75 (obC o s)) := by rw [← hW]; exact Bk.new w _ _
  have zk : w.heap.size < W0.heap.size := HK0.out.lt
  have HM := Lib.hid hm
  have HF := Lib.hid (check7_any o s B W0 (hm.below (HB0.out.mono hB) (Nat.le_refl _)) (by omega) hb)
  have HE := Lib.hid (fun W h1 h2 (h3 : OkO o) => encode7_any o s B W h1 h2 h3.f)
  show Calls _ _ _ w (EnP (OkO o) (ofL (encO o)) w)
  obtain ⟨bs, hbs⟩ : ∃ bs, ofL (encO o) = bs := ⟨_, rfl⟩
  unfold Str7E at HE
  rw [hbs] at HE ⊢
  generalize OkO o = p at *
  obtain ⟨kind, data, ents, ⟨t1, t2⟩, pars, auth, time, msg⟩ := o
  obtain ⟨eA, en, ec, pA, pn, pc⟩ := s
  simp only [obV, obC] at hW HK0 HF HE ⊢
  obtain ⟨c0, c1, c2, c3, c4, c5, c6, c7, c8⟩ := HK0.out.nine
  clear hm hbs hb
  go_enter Tryz.func68, Tryz.ntmps68
  go_wp2_with fail
  refine HF.out.mono ?_
  rintro e w1 ⟨z, rfl, hz, hb1⟩
  have HZ := Lib.hid hz
  have HB1 : Hid (Below w.heap.size w w1) := HB0.out.trans (hb1.mono HB0.out.size)
  have HK1 := Lib.hid (HK0.out.below hb1 zk)
  clear hz hb1 hW c0 c1 c2 c3 c4 c5 c6 c7 c8
  obtain ⟨c0, c1, c2, c3, c4, c5, c6, c7, c8⟩ := HK1.out.nine
  by_cases h0 : z = 0
  case neg =>
    have hzn : (z != 0) = true := by rw [bne_iff_ne]; exact h0
    have HN : Hid (¬ p) := fun h => h0 (HZ.out.2 h)
    have HZN := Lib.hid h0
    clear h0
    go_wp2_with fail
    go_ret2
    exact ⟨.inr ⟨HN.out, z, HZN.out, rfl⟩, HB1.out⟩
  subst h0
  have HQ := Lib.hid (HZ.out.1 rfl)
  go_wp2_with (first | (go_at_call 103; refine (HE.out w1 (HM.out.below (HB1.out.mono hB) (Nat.le_refl _)) (by have := HB1.out.size; omega) HQ.out).mono ?_; rintro e w2 ⟨rfl, hb2⟩; refine halt_ ?_))
  refine unhalt ?_
  have HB2 : Hid (Below w.heap.size w w2) := HB1.out.trans (hb2.mono HB1.out.size)
  clear hb2
  go_wp2_with fail
  go_ret2
  exact ⟨.inl ⟨HQ.out, rfl⟩, HB2.out⟩
end Go.Proofs.YtlcecobipgmafaaGreatDoor
