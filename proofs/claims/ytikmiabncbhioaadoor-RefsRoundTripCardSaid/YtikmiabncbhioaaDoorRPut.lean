/-
  cordwoodref01.put, PutInt and PutText.
-/
import Derived.Test.YtikmiabncbhioaaDoorTxt
import Derived.Test.YtikmiabncbhioaaDoorStable
namespace Go.Proofs.YtikmiabncbhioaaDoor
open Go.RowKit

theorem ofL_append (a b : Bytes) : ofL a ++ ofL b = ofL (a ++ b) := by
  apply ByteArray.ext
  simp [ofL]
theorem list9 {vs : List Value} (h : vs.length = 9) : ∃ v0 v1 v2 v3 v4 v5 v6 v7 v8, vs = [v0, v1, v2, v3, v4, v5, v6, v7, v8] := by
  match vs, h with
  | [v0, v1, v2, v3, v4, v5, v6, v7, v8], _ => exact ⟨v0, v1, v2, v3, v4, v5, v6, v7, v8, rfl⟩
def putPhi (n : Nat) (i : Nat) (v : Value) (w : World) : Prop :=
  match i with
  | 0 => v = .int .i64 n
  | 1 => v = .int .i64 ((n : Int) % 128)
  | 2 => v = .int .i64 (128 + (n : Int) % 128)
  | 3 => v = .int .u8 (128 + (n : Int) % 128)
  | 4 => ∃ g, v = .slice (some ⟨g, 0, none⟩) 1 1 ∧ g < w.heap.size ∧ w.cell? ⟨g, 0, none⟩ = some (.int .u8 (128 + (n : Int) % 128))
  | 5 => v = .string (ofL [UInt8.ofNat (n % 128 + 128)])
  | 6 => v = .int .i64 n
  | 7 => v = .int .i64 ((n : Int) / 128)
  | _ => v = .string (ofL (encN (n / 128)))
theorem putPhi_keep (n : Nat) (i : Nat) (v : Value) (w w' : World) (h : putPhi n i v w) (hb : Below w.heap.size w w') : putPhi n i v w' := by
  match i with
  | 0 => exact h
  | 1 => exact h
  | 2 => exact h
  | 3 => exact h
  | 4 =>
    obtain ⟨g, e, hg, hc⟩ := h
    exact ⟨g, e, Nat.lt_of_lt_of_le hg hb.size, (hb.cell (p := ⟨g, 0, none⟩) hg).trans hc⟩
  | 5 => exact h
  | 6 => exact h
  | 7 => exact h
  | _ + 8 => exact h

set_option maxRecDepth 100000 in
set_option maxHeartbeats 2000000 in
theorem put_any (n : Nat) : n ≤ 9223372036854775807 → ∀ w : World, Calls Tryd.prog 72 #[.int .i64 n] w fun e w' => e = .returned (.string (ofL (encN n))) ∧ Below w.heap.size w w' := by
  induction n using Nat.strongRecOn with
  | _ n ih =>
  intro hn w
  have IH := Lib.hid ih; clear ih
  by_cases hs : n < 128
  · have hsi : (n : Int) < 128 := by omega
    have HE := Lib.hid (encN_small hs)
    have hconv := run_convert_bytes_back (P := Tryd.prog) (w.alloc (.cells #[.int .u8 n] 5)) 70 9 5 ⟨w.heap.size, 0, none⟩ 1 [UInt8.ofNat n] Tryd.underlying70 Tryd.underlying5 Tryd.underlying9 (by
      intro j hj
      simp at hj; subst hj
      simp [Addr.add, toNat_ofNat8 (n := n) (by omega)])
    simp only [List.length_cons, List.length_nil, Nat.zero_add] at hconv
    go_enter Tryd.func72, Tryd.ntmps72
    go_wp2
    go_ret
    exact ⟨by rw [HE.out]; rfl, (Below.refl _ _).alloc (Nat.le_refl _) _⟩
  · have hsi : ¬ (n : Int) < 128 := by omega
    have HE := Lib.hid (encN_big hs)
    go_enter Tryd.func72, Tryd.ntmps72
    go_wp2_with fail
    refine wp_region_stableD 9 [9, 10, 11, 12, 13, 14, 15, 16, 17] (by kernel_rfl) (by kernel_rfl) (by kernel_rfl) (fun W => Below w.heap.size w W) (fun W W' => Below W.heap.size W W')
      (putPhi n) (fun W W' h1 h2 => h1.trans (h2.mono h1.size)) (putPhi_keep n) (Below.refl _ _).drew ?step ?tail
    case step =>
      intro i o vs W hi ho hv hR hphi
      obtain ⟨v0, v1, v2, v3, v4, v5, v6, v7, v8, rfl⟩ := list9 hv
      simp only [List.zip, List.zipWith, putAll, Act.put, List.setIfInBounds_toArray, List.set]
      have h0 : (0 : Int) ≤ (n : Int) := by omega
      match i, hi, ho with
      | 0, _, rfl => exact gives_value (w' := W) (by go_simp) ⟨Below.refl _ _, rfl⟩
      | 1, _, rfl =>
        have e0 : v0 = _ := hphi ⟨0, .data⟩ (by simp) rfl v0 rfl
        subst e0
        exact gives_value (v := .int .i64 ((n : Int) % 128)) (w' := W) (by go_simp; exact Int.tmod_eq_emod_of_nonneg h0) ⟨Below.refl _ _, rfl⟩
      | 2, _, rfl =>
        have e0 : v1 = _ := hphi ⟨1, .data⟩ (by simp) rfl v1 rfl
        subst e0
        exact gives_value (v := .int .i64 (128 + (n : Int) % 128)) (w' := W) (by go_simp; exact IntWalk.i64_in _ (by omega)) ⟨Below.refl _ _, rfl⟩
      | 3, _, rfl =>
        have e0 : v2 = _ := hphi ⟨2, .data⟩ (by simp) rfl v2 rfl
        subst e0
        exact gives_value (v := .int .u8 (128 + (n : Int) % 128)) (w' := W) (by go_simp; exact IntWalk.u8_in _ (by omega)) ⟨Below.refl _ _, rfl⟩
      | 4, _, rfl =>
        have e0 : v3 = _ := hphi ⟨3, .data⟩ (by simp) rfl v3 rfl
        subst e0
        exact gives_value (v := .slice (some ⟨W.heap.size, 0, none⟩) 1 1) (w' := W.alloc (.cells #[.int .u8 (128 + (n : Int) % 128)] 5)) (by go_simp) ⟨(Below.refl _ _).alloc (Nat.le_refl _) _, W.heap.size, rfl, by simp, by simp⟩
      | 5, _, rfl =>
        obtain ⟨g, e0, hg, hc⟩ : ∃ g, v4 = .slice (some ⟨g, 0, none⟩) 1 1 ∧ g < W.heap.size ∧ W.cell? ⟨g, 0, none⟩ = some (.int .u8 (128 + (n : Int) % 128)) := hphi ⟨4, .data⟩ (by simp) rfl v4 rfl
        subst e0
        have hconv := run_convert_bytes_back (P := Tryd.prog) W 70 9 5 ⟨g, 0, none⟩ 1 [UInt8.ofNat (n % 128 + 128)] Tryd.underlying70 Tryd.underlying5 Tryd.underlying9 (by
          intro j hj
          simp at hj; subst hj
          simp only [Addr.add, if_true, List.getElem_cons_zero, toNat_ofNat8 (n := n % 128 + 128) (by omega)]
          rw [hc]; congr 2; omega)
        simp only [List.length_cons, List.length_nil, Nat.zero_add] at hconv
        exact gives_value (v := .string (ofL [UInt8.ofNat (n % 128 + 128)])) (w' := W) (by go_simp; rfl) ⟨Below.refl _ _, rfl⟩
      | 6, _, rfl => exact gives_value (w' := W) (by go_simp) ⟨Below.refl _ _, rfl⟩
      | 7, _, rfl =>
        have e0 : v6 = _ := hphi ⟨6, .data⟩ (by simp) rfl v6 rfl
        subst e0
        exact gives_value (v := .int .i64 ((n : Int) / 128)) (w' := W) (by go_simp; exact IntWalk.i64_in _ (by omega)) ⟨Below.refl _ _, rfl⟩
      | 8, _, rfl =>
        have e0 : v7 = _ := hphi ⟨7, .data⟩ (by simp) rfl v7 rfl
        subst e0
        refine gives_call (f := 72) (args := #[.int .i64 ((n / 128 : Nat) : Int)]) (by go_simp) ((IH.out (n / 128) (by omega) (by omega) W).mono ?_)
        rintro e W' ⟨rfl, hb⟩
        exact ⟨_, rfl, hb, rfl⟩
    case tail =>
      intro vs W hv hR hphi
      obtain ⟨v0, v1, v2, v3, v4, v5, v6, v7, v8, rfl⟩ := list9 hv
      simp only [List.zip, List.zipWith, putAll, Act.put, List.setIfInBounds_toArray, List.set, List.drop]
      have e5 : v5 = .string (ofL [UInt8.ofNat (n % 128 + 128)]) := hphi 5 v5 rfl
      have e8 : v8 = .string (ofL (encN (n / 128))) := hphi 8 v8 rfl
      subst e5 e8
      have HR := Lib.hid hR
      clear hphi hR
      have hl1 : (ofL [UInt8.ofNat (n % 128 + 128)]).size = 1 := rfl
      have hl2 : (ofL (encN (n / 128))).size ≤ 10 := by rw [size_ofL]; exact encN_len 9 _ (by omega)
      have HF : Hid (ofL [UInt8.ofNat (n % 128 + 128)] ++ ofL (encN (n / 128)) = ofL (encN n)) := by
        show _ = _
        rw [ofL_append, HE.out]; rfl
      generalize ofL [UInt8.ofNat (n % 128 + 128)] = p at *
      generalize ofL (encN (n / 128)) = q at *
      have hsum : p.size + q.size ≤ 9223372036854775807 := by omega
      clear hl1 hl2
      go_wp2
      go_ret
      exact ⟨by rw [HF.out]; rfl, HR.out⟩

set_option maxHeartbeats 1000000 in
theorem refPutInt_any (n : Nat) (hn : n ≤ 1099511627776) (w : World) :
    Calls Tryd.prog 45 #[.int .i64 n] w fun e w' => e = .returned (.tuple #[.string (ofL (encN n)), .int .i64 0]) ∧ Below w.heap.size w w' := by
  have h0 : ¬ (n : Int) < 0 := by omega
  have h1 : ¬ (1099511627776 : Int) < (n : Int) := by omega
  go_enter Tryd.func45, Tryd.ntmps45
  go_wp2_with fail
  refine (put_any n (by omega) _).mono ?_
  rintro e w1 ⟨rfl, hb1⟩
  have HB1 := Lib.hid hb1; clear hb1
  go_wp2_with fail
  go_ret2
  exact ⟨rfl, HB1.out⟩

set_option maxHeartbeats 1000000 in
theorem refPutText_any (s : ByteArray) (hs : s.size ≤ 65536) (w : World) :
    Calls Tryd.prog 47 #[.string s] w fun e w' => e = .returned (.tuple #[.string (ofL (encT (toL s))), .int .i64 0]) ∧ Below w.heap.size w w' := by
  have hsi : ¬ (65536 : Int) < (s.size : Int) := by omega
  go_enter Tryd.func47, Tryd.ntmps47
  go_wp2_with fail
  refine (put_any s.size (by omega) _).mono ?_
  rintro e w1 ⟨rfl, hb1⟩
  have HB1 := Lib.hid hb1; clear hb1
  have hl2 : (ofL (encN s.size)).size ≤ 6 := by rw [size_ofL]; exact encN_len 5 _ (by omega)
  have HF : Hid (ofL (encN s.size) ++ s = ofL (encT (toL s))) := by
    show _ = _
    unfold encT
    rw [← size_toL, ← ofL_append, ofL_toL]
  generalize ofL (encN s.size) = q at *
  have hsum : q.size + s.size ≤ 9223372036854775807 := by omega
  go_wp2_with fail
  go_ret2
  exact ⟨by rw [HF.out]; rfl, HB1.out⟩
end Go.Proofs.YtikmiabncbhioaaDoor
