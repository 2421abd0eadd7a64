/-
  refs.getDigest and cordwoodref11.digest: the digest with 16 bytes.
-/
import Derived.Test.YtikmiabncbhioaaDoorGInt
import Derived.Test.YtikmiabncbhioaaDoorRChk
import Derived.RegionTactic
import Derived.BigRegion
import Derived.Laws.BitsLemmas
import Derived.IntWalk
namespace Go.Proofs.YtikmiabncbhioaaDoor
open Go.RowKit

def wd1 (l : Bytes) (k : Nat) : Nat := valF 0 (l.take (min k 8))
def wd2 (l : Bytes) (k : Nat) : Nat := valF 0 ((l.drop 8).take (k - 8))
theorem valF_snoc (l : Bytes) (b : UInt8) : valF 0 (l ++ [b]) = valF 0 l * 256 + b.toNat := by simp [valF]
theorem wd1_step {l : Bytes} {k : Nat} {b : UInt8} (h : l[k]? = some b) (hk : k < 8) : wd1 l (k + 1) = wd1 l k * 256 + b.toNat ∧ wd2 l (k + 1) = wd2 l k := by
  unfold wd1 wd2
  rw [show min (k + 1) 8 = k + 1 by omega, show min k 8 = k by omega, take_snoc h, valF_snoc, show k + 1 - 8 = 0 by omega, show k - 8 = 0 by omega]
  exact ⟨rfl, rfl⟩
theorem wd2_step {l : Bytes} {k : Nat} {b : UInt8} (h : l[k]? = some b) (hk : 8 ≤ k) : wd1 l (k + 1) = wd1 l k ∧ wd2 l (k + 1) = wd2 l k * 256 + b.toNat := by
  unfold wd1 wd2
  have h' : (l.drop 8)[k - 8]? = some b := by rw [List.getElem?_drop, show 8 + (k - 8) = k by omega]; exact h
  rw [show min (k + 1) 8 = 8 by omega, show min k 8 = 8 by omega, show k + 1 - 8 = k - 8 + 1 by omega, take_snoc h', valF_snoc]
  exact ⟨rfl, rfl⟩
theorem wd1_lt {l : Bytes} {k : Nat} (hk : k < 8) : wd1 l k < 256 ^ 7 := by
  have h := valF_lt (l.take (min k 8)) 0
  have hl : (l.take (min k 8)).length ≤ 7 := by rw [List.length_take]; omega
  have := Nat.pow_le_pow_right (n := 256) (by omega) hl
  unfold wd1; omega
theorem wd2_lt {l : Bytes} {k : Nat} (hk : k < 16) : wd2 l k < 256 ^ 7 := by
  have h := valF_lt ((l.drop 8).take (k - 8)) 0
  have hl : ((l.drop 8).take (k - 8)).length ≤ 7 := by rw [List.length_take]; omega
  have := Nat.pow_le_pow_right (n := 256) (by omega) hl
  unfold wd2; omega
theorem w_end (l : Bytes) : dg l = ((wd1 l 16 : Int), (wd2 l 16 : Int)) := rfl
theorem byte_get {s : ByteArray} {k : Nat} (h : k < s.size) : (toL s)[k]? = some s[k] := by
  rw [List.getElem?_eq_getElem (by rw [← size_toL]; exact h)]; rfl

theorem res_one28 {fn : Func} {c : Tmp} (h : fn.results = #[.cell c 28]) {w : World} {a : Array Value} {b : Nat} {x y : Value} (ha : a[c]?.getD undef = .pointer (some ⟨b, 0, none⟩)) (hk : Bk w b 28 #[x, y]) :
    (results fn a).run Tryd.prog w = .ok (.agg #[x, y]) w := by
  have h0 := hk.cell 0; have h1 := hk.cell 1
  simp at h0 h1
  simp [results, h, ha, go_sem, h0, h1]

set_option maxRecDepth 100000 in
set_option maxHeartbeats 2000000 in
theorem refDigest_any (s : ByteArray) (hs : s.size ≤ maxLen) (h16 : 16 ≤ s.size) (w : World) :
    Calls Tryd.prog 60 #[.string s] w fun e w' => e = .returned (digV (dg (toL s))) ∧ Below w.heap.size w w' := by
  unfold maxLen at hs
  have HE := Lib.hid (w_end (toL s))
  have K0 : Bk ((w.alloc (.cells #[.int .u64 0, .int .u64 0] 28)).alloc (.cells #[.int .u64 0, .int .u64 0] 28)) w.heap.size 28 #[.int .u64 0, .int .u64 0] := (Bk.new w 28 _).alloc _
  have K1 : Bk ((w.alloc (.cells #[.int .u64 0, .int .u64 0] 28)).alloc (.cells #[.int .u64 0, .int .u64 0] 28)) (w.heap.size + 1) 28 #[.int .u64 0, .int .u64 0] := by
    have := Bk.new (w.alloc (.cells #[.int .u64 0, .int .u64 0] 28)) 28 #[.int .u64 0, .int .u64 0]
    rwa [World.size_alloc] at this
  have HB : Hid (Below w.heap.size w ((w.alloc (.cells #[.int .u64 0, .int .u64 0] 28)).alloc (.cells #[.int .u64 0, .int .u64 0] 28))) := ((Below.refl _ w).alloc (Nat.le_refl _) _).alloc (by simp) _
  have HK0 := Lib.hid K0; have HK1 := Lib.hid K1; clear K0 K1
  go_enter Tryd.func60, Tryd.ntmps60
  go_wp2
  go_loopw [4] (fun i wr => ∃ k : Nat, k ≤ 16 ∧ i = .int .i64 k ∧ Hid (Bk wr w.heap.size 28 #[.int .u64 0, .int .u64 0]) ∧ Hid (Bk wr (w.heap.size + 1) 28 #[.int .u64 (wd1 (toL s) k), .int .u64 (wd2 (toL s) k)]) ∧ Hid (Below w.heap.size w wr)) (fun i _ => 16 - (intOf i).toNat)
  case atStart => exact ⟨0, by omega, rfl, HK0.out, HK1.out, HB.out⟩
  case round =>
    obtain ⟨k, hk, rfl, J0, J1, hB⟩ := hrel
    by_cases hlt : k < 16
    · have hsz : k < s.size := by omega
      have hd : s[k].toNat < 256 := s[k].toNat_lt
      have hki : (k : Int) < 16 := by omega
      by_cases h8 : k < 8
      · have hx := wd1_lt (l := toL s) h8
        obtain ⟨e1, e2⟩ := wd1_step (byte_get hsz) h8
        have HE1 := Lib.hid e1; have HE2 := Lib.hid e2
        have y0 := J1.out.cell 0; have y1 := J1.out.cell 1; have f0 := J1.out.free 0
        simp at y0 y1
        clear e1 e2
        have hq : (k : Int) / 8 = 0 := by omega
        generalize wd1 (toL s) k = x at *
        generalize wd2 (toL s) k = y at *
        go_wp2_with fail
        go_region
        go_wp2
        go_roundw
        case rel => exact ⟨k + 1, by omega, by go_num, J0.out.far (p := ⟨w.heap.size + 1, 0, none⟩) (by simp) _, by show Bk _ _ _ _; rw [HE1.out, HE2.out]; exact J1.out.set 0 _, (hB.out.setCell (p := ⟨w.heap.size + 1, 0, none⟩) (by simp) _).drew⟩
        case measure => simp [intOf]; omega
      · have hx := wd2_lt (l := toL s) hlt
        obtain ⟨e1, e2⟩ := wd2_step (byte_get hsz) (by omega)
        have HE1 := Lib.hid e1; have HE2 := Lib.hid e2
        have y0 := J1.out.cell 0; have y1 := J1.out.cell 1; have f1 := J1.out.free 1
        simp at y0 y1
        clear e1 e2
        have hq : (k : Int) / 8 = 1 := by omega
        generalize wd1 (toL s) k = x at *
        generalize wd2 (toL s) k = y at *
        go_wp2_with fail
        go_region
        go_wp2
        go_roundw
        case rel => exact ⟨k + 1, by omega, by go_num, J0.out.far (p := ⟨w.heap.size + 1, 1, none⟩) (by simp) _, by show Bk _ _ _ _; rw [HE1.out, HE2.out]; exact J1.out.set 1 _, (hB.out.setCell (p := ⟨w.heap.size + 1, 1, none⟩) (by simp) _).drew⟩
        case measure => simp [intOf]; omega
    · have hke : Hid (k = 16) := by show _ = _; omega
      have hki : ¬ (k : Int) < 16 := by omega
      have HX : Hid (dg (toL s) = ((wd1 (toL s) k : Int), (wd2 (toL s) k : Int))) := by show _ = _; rw [hke.out]; exact HE.out
      obtain ⟨y0, y1, _, _⟩ := J1.out.agg
      obtain ⟨z0, z1, f0, f1⟩ := J0.out.agg
      generalize wd1 (toL s) k = x at *
      generalize wd2 (toL s) k = y at *
      clear hlt
      go_wp2
      exact bodyPost_ret (res_one28 Tryd.results60 rfl (J0.out.set2 _ _)) rfl ⟨by rw [HX.out]; rfl, below_set2 hB.out (Nat.le_refl _) _ _⟩
theorem or_join {x y : Nat} (hx : x < 256 ^ 7) (hy : y < 256) : bits .or .u64 ((x : Int) * 256) (y : Int) = (x : Int) * 256 + (y : Int) :=
  bits_join .u64 64 (by decide) (fun n h0 h1 => IntWalk.u64_in n (by omega)) 8 ((x : Int) * 256) (y : Int) (by omega) (by omega) (by omega) (by omega) (by omega) (by omega)

theorem res_three28 {fn : Func} {c i j : Tmp} (h : fn.results = #[.cell c 28, .tmp i, .tmp j]) {w : World} {a : Array Value} {b : Nat} {x y v u : Value} (ha : a[c]?.getD undef = .pointer (some ⟨b, 0, none⟩)) (hk : Bk w b 28 #[x, y]) (hv : a[i]?.getD undef = v) (hu : a[j]?.getD undef = u) :
    (results fn a).run Tryd.prog w = .ok (.tuple #[.agg #[x, y], v, u]) w := by
  have h0 := hk.cell 0; have h1 := hk.cell 1
  simp at h0 h1
  simp [results, h, ha, hv, hu, go_sem, h0, h1]

set_option maxRecDepth 100000 in
set_option maxHeartbeats 2000000 in
theorem getDigest_long (s : ByteArray) (hs : s.size ≤ maxLen) (h16 : 16 ≤ s.size) (w : World) :
    Calls Tryd.prog 54 #[.string s] w fun e w' => e = .returned (.tuple #[digV (dg (toL s)), .int .i64 16, .int .i64 0]) ∧ Below w.heap.size w w' := by
  unfold maxLen at hs
  have HE := Lib.hid (w_end (toL s))
  have K0 : Bk ((w.alloc (.cells #[.int .u64 0, .int .u64 0] 28)).alloc (.cells #[.int .u64 0, .int .u64 0] 28)) w.heap.size 28 #[.int .u64 0, .int .u64 0] := (Bk.new w 28 _).alloc _
  have K1 : Bk ((w.alloc (.cells #[.int .u64 0, .int .u64 0] 28)).alloc (.cells #[.int .u64 0, .int .u64 0] 28)) (w.heap.size + 1) 28 #[.int .u64 0, .int .u64 0] := by
    have := Bk.new (w.alloc (.cells #[.int .u64 0, .int .u64 0] 28)) 28 #[.int .u64 0, .int .u64 0]
    rwa [World.size_alloc] at this
  have HB : Hid (Below w.heap.size w ((w.alloc (.cells #[.int .u64 0, .int .u64 0] 28)).alloc (.cells #[.int .u64 0, .int .u64 0] 28))) := ((Below.refl _ w).alloc (Nat.le_refl _) _).alloc (by simp) _
  have HK0 := Lib.hid K0; have HK1 := Lib.hid K1; clear K0 K1
  have h16i : ¬ (s.size : Int) < 16 := by omega
  go_enter Tryd.func54, Tryd.ntmps54
  go_wp2
  go_loopw [11] (fun i wr => ∃ k : Nat, k ≤ 16 ∧ i = .int .i64 k ∧ Hid (Bk wr w.heap.size 28 #[.int .u64 0, .int .u64 0]) ∧ Hid (Bk wr (w.heap.size + 1) 28 #[.int .u64 (wd1 (toL s) k), .int .u64 (wd2 (toL s) k)]) ∧ Hid (Below w.heap.size w wr)) (fun i _ => 16 - (intOf i).toNat)
  case atStart => exact ⟨0, by omega, rfl, HK0.out, HK1.out, HB.out⟩
  case round =>
    obtain ⟨k, hk, rfl, J0, J1, hB⟩ := hrel
    by_cases hlt : k < 16
    · have hsz : k < s.size := by omega
      have hd : s[k].toNat < 256 := s[k].toNat_lt
      have hki : (k : Int) < 16 := by omega
      by_cases h8 : k < 8
      · have hx := wd1_lt (l := toL s) h8
        obtain ⟨e1, e2⟩ := wd1_step (byte_get hsz) h8
        have HE1 := Lib.hid e1; have HE2 := Lib.hid e2
        have y0 := J1.out.cell 0; have y1 := J1.out.cell 1; have f0 := J1.out.free 0
        simp at y0 y1
        clear e1 e2
        have hq : (k : Int) / 8 = 0 := by omega
        generalize wd1 (toL s) k = x at *
        generalize wd2 (toL s) k = y at *
        have hor := or_join (x := x) (y := s[k].toNat) (by omega) (by omega)
        go_wp2_with fail
        go_region
        go_wp2
        go_roundw
        case rel => exact ⟨k + 1, by omega, by go_num, J0.out.far (p := ⟨w.heap.size + 1, 0, none⟩) (by simp) _, by show Bk _ _ _ _; rw [HE1.out, HE2.out]; exact J1.out.set 0 _, (hB.out.setCell (p := ⟨w.heap.size + 1, 0, none⟩) (by simp) _).drew⟩
        case measure => simp [intOf]; omega
      · have hx := wd2_lt (l := toL s) hlt
        obtain ⟨e1, e2⟩ := wd2_step (byte_get hsz) (by omega)
        have HE1 := Lib.hid e1; have HE2 := Lib.hid e2
        have y0 := J1.out.cell 0; have y1 := J1.out.cell 1; have f1 := J1.out.free 1
        simp at y0 y1
        clear e1 e2
        have hq : (k : Int) / 8 = 1 := by omega
        generalize wd1 (toL s) k = x at *
        generalize wd2 (toL s) k = y at *
        have hor := or_join (x := y) (y := s[k].toNat) (by omega) (by omega)
        go_wp2_with fail
        go_region
        go_wp2
        go_roundw
        case rel => exact ⟨k + 1, by omega, by go_num, J0.out.far (p := ⟨w.heap.size + 1, 1, none⟩) (by simp) _, by show Bk _ _ _ _; rw [HE1.out, HE2.out]; exact J1.out.set 1 _, (hB.out.setCell (p := ⟨w.heap.size + 1, 1, none⟩) (by simp) _).drew⟩
        case measure => simp [intOf]; omega
    · have hke : Hid (k = 16) := by show _ = _; omega
      have hki : ¬ (k : Int) < 16 := by omega
      have HX : Hid (dg (toL s) = ((wd1 (toL s) k : Int), (wd2 (toL s) k : Int))) := by show _ = _; rw [hke.out]; exact HE.out
      obtain ⟨y0, y1, _, _⟩ := J1.out.agg
      obtain ⟨z0, z1, f0, f1⟩ := J0.out.agg
      generalize wd1 (toL s) k = x at *
      generalize wd2 (toL s) k = y at *
      clear hlt
      go_wp2
      exact bodyPost_ret (res_three28 Tryd.results54 rfl (J0.out.set2 _ _) rfl rfl) rfl ⟨by rw [HX.out]; rfl, below_set2 hB.out (Nat.le_refl _) _ _⟩

def RetDg (r : Dig × Nat × Int) (w : World) (e : Ending) (w' : World) : Prop := e = .returned (.tuple #[digV r.1, .int .i64 r.2.1, .int .i64 r.2.2]) ∧ Below w.heap.size w w'
def getDg (l : Bytes) : Dig × Nat × Int := if l.length < 16 then ((0, 0), 0, 13) else (dg l, 16, 0)
set_option maxRecDepth 100000 in
set_option maxHeartbeats 2000000 in
theorem getDigest_any (s : ByteArray) (hs : s.size ≤ maxLen) (w : World) : Calls Tryd.prog 54 #[.string s] w (RetDg (getDg (toL s)) w) := by
  by_cases h16 : s.size < 16
  · have HX : Hid (getDg (toL s) = ((0, 0), 0, 13)) := by show _ = _; unfold getDg; rw [← size_toL, if_pos h16]
    have h16i : (s.size : Int) < 16 := by omega
    have K0 : Bk ((w.alloc (.cells #[.int .u64 0, .int .u64 0] 28)).alloc (.cells #[.int .u64 0, .int .u64 0] 28)) w.heap.size 28 #[.int .u64 0, .int .u64 0] := (Bk.new w 28 _).alloc _
    have HB : Hid (Below w.heap.size w ((w.alloc (.cells #[.int .u64 0, .int .u64 0] 28)).alloc (.cells #[.int .u64 0, .int .u64 0] 28))) := ((Below.refl _ w).alloc (Nat.le_refl _) _).alloc (by simp) _
    have HK0 := Lib.hid K0; clear K0
    go_enter Tryd.func54, Tryd.ntmps54
    go_wp2
    rw [HX.out]
    exact bodyPost_ret (res_three28 Tryd.results54 rfl HK0.out rfl rfl) rfl ⟨rfl, HB.out⟩
  · refine (getDigest_long s hs (by omega) w).mono ?_
    rintro e w' ⟨rfl, hb⟩
    have : getDg (toL s) = (dg (toL s), 16, 0) := by unfold getDg; rw [← size_toL, if_neg h16]
    rw [this]
    exact ⟨rfl, hb⟩
end Go.Proofs.YtikmiabncbhioaaDoor
