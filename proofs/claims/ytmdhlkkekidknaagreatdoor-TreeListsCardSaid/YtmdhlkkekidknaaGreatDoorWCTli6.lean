/-
  Lemmas: The reference's paths: cut, ValidName, Path, Below. The reference's check of an object's fields: all kinds; exact. cordwoodref01.put, PutInt and PutText. tree.Check. The reference's Path and Below. The reference's check of a blob. The reference's Check of files. Trees of files: what a visit finds, what Load answers; in plain Lean. The paths that a visit finds differ; in plain Lean. Lists of files with one more, or without one; in plain Lean.
-/
import Derived.Deep.QuietTactic
import Derived.BigQuiet
import Derived.Test.YtmdhlkkekidknaaGreatDoorWCTli5
import Derived.Test.YtmdhlkkekidknaaGreatDoorWCTli3
import Derived.Test.YtmdhlkkekidknaaGreatDoorWCTli2
import Derived.Test.YtmdhlkkekidknaaGreatDoorWCTli1

namespace Go.Proofs.YtmdhlkkekidknaaGreatDoor
open Go.RowKit Go.Shelf

def CutR (s a b : ByteArray) (m : Bool) : Prop :=
  (slashL (bl s) < s.size ∧ a = s.extract 0 (slashL (bl s)) ∧ b = s.extract (slashL (bl s) + 1) s.size ∧ m = true) ∨ (slashL (bl s) = s.size ∧ a = s ∧ b = ⟨#[]⟩ ∧ m = false)
def CutEnd (s : ByteArray) (w : World) (e : Ending) (w' : World) : Prop := ∃ a b m, e = .returned (.tuple #[.string a, .string b, .bool m]) ∧ CutR s a b m ∧ Below w.heap.size w w'
theorem resultsCut {w : World} {a : Array Value} {x y z : Value} (hx : a[2]?.getD undef = x) (hy : a[3]?.getD undef = y) (hz : a[4]?.getD undef = z) : (results Tryz.f75 a).run Tryz.prog w = .ok (.tuple #[x, y, z]) w := by
  simp [results, Tryz.results75, hx, hy, hz, go_sem]
set_option maxHeartbeats 2000000 in
theorem cut9_any (s : ByteArray) (w : World) (hs : s.size ≤ 1000000) :
    Calls Tryz.prog 75 #[.string s] w (CutEnd s w) := by
  have HL := Lib.hid (size_len s)
  go_enter Tryz.func75, Tryz.ntmps75
  go_wp2
  go_loopw [5] (fun i wr => ∃ k : Nat, k ≤ s.size ∧ i = .int .i64 k ∧ Hid (∀ j, j < k → (bl s)[j]? ≠ some 47) ∧ wr = w) (fun i _ => s.size - (intOf i).toNat)
  case atStart => exact ⟨0, Nat.zero_le _, rfl, fun j h => absurd h (by omega), rfl⟩
  case round =>
    obtain ⟨k, hk, rfl, hN, rfl⟩ := hrel
    by_cases hlt : k < s.size
    · have hg := Lib.hid (get_data s k hlt)
      have hlz : (k : Int) < (s.size : Int) := by omega
      by_cases h47 : s[k] = 47
      · have t1 : (((s[k].toNat : Nat) : Int) == 47) = true := by simp [h47]
        have HF : Hid (slashL (bl s) = k) := slashL_at hN.out (by unfold bl; rw [← HL.out]; exact hk) (.inr (by show s.data.toList[k]? = _; rw [hg.out, h47]))
        have hw1 : IntKind.i64.wrap ((k : Int) + 1) = (k : Int) + 1 := wrap_sm (by omega) (by omega)
        have hk1 : (k : Int) + 1 ≤ (s.size : Int) := by omega
        have hk2 : (k : Int) ≤ (s.size : Int) := by omega
        have hk3 : ¬ (k : Int) < 0 := by omega
        have hk4 : ¬ (k : Int) + 1 < 0 := by omega
        clear h47
        go_wp2
        go_quiet (fail)
        go_wp2
        exact bodyPost_ret (resultsCut rfl rfl rfl) rfl ⟨_, _, _, rfl, .inl ⟨by rw [HF.out]; exact hlt, by rw [HF.out], by rw [HF.out], rfl⟩, below_drewN (Below.refl _ _) _⟩
      · have t1 : (((s[k].toNat : Nat) : Int) == 47) = false := by
          rw [beq_eq_false_iff_ne]; intro e
          apply h47
          apply UInt8.toNat_inj.1
          show s[k].toNat = 47
          omega
        have HF : Hid (∀ j, j < k + 1 → (bl s)[j]? ≠ some 47) := fun j hj => by
          by_cases e : j = k
          · subst e; show s.data.toList[j]? ≠ _; rw [hg.out]; intro e2; exact h47 (Option.some.inj e2)
          · exact hN.out j (by omega)
        clear h47
        go_wp2
        go_roundw
        case rel => exact ⟨k + 1, hlt, by go_num, HF.out, trivial⟩
        case measure => simp [intOf]; omega
    · have hlz : ¬ (k : Int) < (s.size : Int) := by omega
      have HF : Hid (slashL (bl s) = s.size) := by
        have : k = s.size := by omega
        subst this
        exact slashL_at hN.out (by unfold bl; rw [← HL.out]; exact hk) (.inl (by unfold bl; rw [← HL.out]))
      go_wp2
      exact bodyPost_ret (resultsCut rfl rfl rfl) rfl ⟨_, _, _, rfl, .inr ⟨HF.out, rfl, rfl, rfl⟩, Below.refl _ _⟩
theorem vch_no {c : Int} (h1 : ¬ (97 ≤ c ∧ c ≤ 122)) (h2 : ¬ (65 ≤ c ∧ c ≤ 90)) (h3 : ¬ (48 ≤ c ∧ c ≤ 57)) (h4 : c ≠ 46) (h5 : c ≠ 95) (h6 : c ≠ 45) : vchI c = false := by
  simp [vchI, h4, h5, h6]; omega
theorem vch_yes {c : Int} (h : (97 ≤ c ∧ c ≤ 122) ∨ (65 ≤ c ∧ c ≤ 90) ∨ (48 ≤ c ∧ c ≤ 57) ∨ c = 46 ∨ c = 95 ∨ c = 45) : vchI c = true := by
  simp [vchI]; omega
theorem beq_of {c d : Int} (h : c = d) : (c == d) = true := by rw [h]; simp
theorem beq_no {c d : Int} (h : c ≠ d) : (c == d) = false := by simp [h]
set_option maxRecDepth 100000 in
set_option maxHeartbeats 4000000 in
theorem vname7_any (s : ByteArray) (w : World) (hs : s.size ≤ maxLen) : Calls Tryz.prog 116 #[.string s] w fun e w' => e = .returned (.bool (nameB s)) ∧ w = w' := by
  unfold maxLen at hs
  have HL := Lib.hid (size_len s)
  go_enter Tryz.func116, Tryz.ntmps116
  have hno : ∀ b : Bool, nameB s = b → Hid (nameB s = b) := fun b h => h
  have hls : (bl s).length = s.size := (size_len s).symm
  by_cases c1 : (s.size : Int) < 1
  · have hv := hno false (by unfold nameB nameL; rw [decide_eq_false (by omega), Bool.false_and])
    clear hno hls
    go_wp2_with fail
    go_ret
    exact ⟨ret_bool hv.out.symm, rfl⟩
  by_cases c2 : (24 : Int) < (s.size : Int)
  · have hv := hno false (by unfold nameB nameL; rw [decide_eq_false (p := (bl s).length ≤ 24) (by omega)]; simp)
    clear hno hls
    go_wp2_with fail
    go_ret
    exact ⟨ret_bool hv.out.symm, rfl⟩
  have h3 : (s.toList == [46]) = decide (bl s = [46]) := by rw [ByteArray.toList_eq]; unfold bl; rw [Bool.eq_iff_iff]; simp
  have h4 : (s.toList == [46, 46]) = decide (bl s = [46, 46]) := by rw [ByteArray.toList_eq]; unfold bl; rw [Bool.eq_iff_iff]; simp
  by_cases c3 : bl s = [46]
  · have hv := hno false (by unfold nameB nameL; rw [decide_eq_true c3]; simp)
    rw [decide_eq_true c3] at h3
    clear hno hls h4 c3
    go_wp2_with fail
    go_ret
    exact ⟨ret_bool hv.out.symm, rfl⟩
  rw [decide_eq_false c3] at h3
  by_cases c4 : bl s = [46, 46]
  · have hv := hno false (by unfold nameB nameL; rw [decide_eq_true c4]; simp)
    rw [decide_eq_true c4] at h4
    clear hno hls c4 c3
    go_wp2_with fail
    go_ret
    exact ⟨ret_bool hv.out.symm, rfl⟩
  rw [decide_eq_false c4] at h4
  have HV : Hid (nameB s = (bl s).all vchB) := by
    show _ = _
    unfold nameB nameL
    rw [decide_eq_true (p := 1 ≤ (bl s).length) (by omega), decide_eq_true (p := (bl s).length ≤ 24) (by omega), decide_eq_false c3, decide_eq_false c4]
    simp
  have HLS := Lib.hid hls
  clear hno c3 c4 hls
  go_wp2_with fail
  go_loop [3] (fun i => ∃ k : Nat, k ≤ s.size ∧ i = .int .i64 k ∧ Hid (AllTo (bl s) k)) (fun i => s.size - (intOf i).toNat)
  case atStart => exact ⟨0, Nat.zero_le _, rfl, fun j c h => absurd h (by omega)⟩
  case round =>
    obtain ⟨k, hk, rfl, hA⟩ := hrel
    by_cases hlt : k < s.size
    · have hkz : (k : Int) < (s.size : Int) := by omega
      have HG := Lib.hid (get_data s k hlt)
      have HT : Hid (vchI (s[k].toNat : Int) = true → AllTo (bl s) (k + 1)) := fun hv => hA.out.step HG.out hv
      have HF : Hid (vchI (s[k].toNat : Int) = false → nameB s = false) := fun hv => by
        rw [HV.out, List.all_eq_false]
        exact ⟨s[k], List.mem_of_getElem? HG.out, by unfold vchB; rw [hv]; simp⟩
      clear hA h3 h4
      by_cases h46 : (s[k].toNat : Int) = 46
      · have t46 := beq_of h46
        go_wp2
        all_goals first
          | (go_ret; exact ⟨ret_bool (HF.out (vch_no (by omega) (by omega) (by omega) (by omega) (by omega) (by omega))).symm, rfl⟩)
          | (go_round
             case rel => exact ⟨k + 1, hlt, by go_num, HT.out (vch_yes (by first | omega | (simp at *; omega)))⟩
             case measure => simp [intOf]; omega)
      · have t46 := beq_no h46
        by_cases h95 : (s[k].toNat : Int) = 95
        · have t95 := beq_of h95
          go_wp2
          all_goals first
            | (go_ret; exact ⟨ret_bool (HF.out (vch_no (by omega) (by omega) (by omega) (by omega) (by omega) (by omega))).symm, rfl⟩)
            | (go_round
               case rel => exact ⟨k + 1, hlt, by go_num, HT.out (vch_yes (by first | omega | (simp at *; omega)))⟩
               case measure => simp [intOf]; omega)
        · have t95 := beq_no h95
          by_cases h45 : (s[k].toNat : Int) = 45
          · have t45 := beq_of h45
            go_wp2
            all_goals first
              | (go_ret; exact ⟨ret_bool (HF.out (vch_no (by omega) (by omega) (by omega) (by omega) (by omega) (by omega))).symm, rfl⟩)
              | (go_round
                 case rel => exact ⟨k + 1, hlt, by go_num, HT.out (vch_yes (by first | omega | (simp at *; omega)))⟩
                 case measure => simp [intOf]; omega)
          · have t45 := beq_no h45
            go_wp2
            all_goals first
              | (go_ret; refine ⟨ret_bool (HF.out (vch_no ?_ ?_ ?_ h46 h95 h45)).symm, rfl⟩ <;> omega)
              | (go_round
                 case rel => exact ⟨k + 1, hlt, by go_num, HT.out (vch_yes (by first | omega | (simp at *; omega)))⟩
                 case measure => simp [intOf]; omega)
    · have hkz : ¬ (k : Int) < (s.size : Int) := by omega
      have HT : Hid (nameB s = true) := by
        show _ = _
        rw [HV.out]
        refine AllTo.all ?_
        have := hA.out
        rwa [show k = (bl s).length from by rw [HLS.out]; omega] at this
      clear hA
      go_wp2_with fail
      go_ret
      exact ⟨ret_bool HT.out.symm, rfl⟩
end Go.Proofs.YtmdhlkkekidknaaGreatDoor

namespace Go.Proofs.YtmdhlkkekidknaaGreatDoor
open Go.RowKit

structure OnlyP (o : Ob) : Prop where
  d : o.kind = 2 ∨ o.kind = 3 → o.data = ⟨#[]⟩
  e : o.kind ≠ 2 → o.ents = []
  c : o.kind = 3 ∨ NoC o
theorem OkF.only {o : Ob} (h : OkF o) : OnlyP o := by
  cases h with
  | blob k e c d => exact ⟨fun h => by omega, fun _ => e, .inr c⟩
  | tree k d c e => exact ⟨fun _ => d, fun h => absurd k h, .inr c⟩
  | commit k d e c => exact ⟨fun _ => d, fun _ => e, .inl k⟩
end Go.Proofs.YtmdhlkkekidknaaGreatDoor

namespace Go.Proofs.YtmdhlkkekidknaaGreatDoor
open Go.RowKit

theorem ofL_append (a b : Bytes) : ofL a ++ ofL b = ofL (a ++ b) := by
  apply ByteArray.ext
  simp [ofL]
theorem rp_list9 {vs : List Value} (h : vs.length = 9) : ∃ v0 v1 v2 v3 v4 v5 v6 v7 v8, vs = [v0, v1, v2, v3, v4, v5, v6, v7, v8] := by
  match vs, h with
  | [v0, v1, v2, v3, v4, v5, v6, v7, v8], _ => exact ⟨v0, v1, v2, v3, v4, v5, v6, v7, v8, rfl⟩
def putPhi (n : Nat) (i : Nat) (v : Value) (w : World) : Prop :=
  match i with
  | 0 => v = .int .i64 n
  | 1 => v = .int .i64 ((n : Int) % 128)
  | 2 => v = .int .i64 (128 + (n : Int) % 128)
  | 3 => v = .int .u8 (128 + (n : Int) % 128)
  | 4 => ∃ g, v = .slice (some ⟨g, 0, none⟩) 1 1 ∧ g < w.heap.size ∧ w.cell? ⟨g, 0, none⟩ = some (.int .u8 (128 + (n : Int) % 128))
  | 5 => v = .string (ofL [UInt8.ofNat (n % 128 + 128)])
  | 6 => v = .int .i64 n
  | 7 => v = .int .i64 ((n : Int) / 128)
  | _ => v = .string (ofL (encN (n / 128)))
theorem putPhi_keep (n : Nat) (i : Nat) (v : Value) (w w' : World) (h : putPhi n i v w) (hb : Below w.heap.size w w') : putPhi n i v w' := by
  match i with
  | 0 => exact h
  | 1 => exact h
  | 2 => exact h
  | 3 => exact h
  | 4 =>
    obtain ⟨g, e, hg, hc⟩ := h
    exact ⟨g, e, Nat.lt_of_lt_of_le hg hb.size, (hb.cell (p := ⟨g, 0, none⟩) hg).trans hc⟩
  | 5 => exact h
  | 6 => exact h
  | 7 => exact h
  | _ + 8 => exact h

set_option maxRecDepth 100000 in
set_option maxHeartbeats 2000000 in
theorem put_any (n : Nat) : n ≤ 9223372036854775807 → ∀ w : World, Calls Tryz.prog 216 #[.int .i64 n] w fun e w' => e = .returned (.string (ofL (encN n))) ∧ Below w.heap.size w w' := by
  induction n using Nat.strongRecOn with
  | _ n ih =>
  intro hn w
  have IH := Lib.hid ih; clear ih
  by_cases hs : n < 128
  · have hsi : (n : Int) < 128 := by omega
    have HE := Lib.hid (encN_small hs)
    have hconv := run_convert_bytes_back (P := Tryz.prog) (w.alloc (.cells #[.int .u8 n] 5)) 161 9 5 ⟨w.heap.size, 0, none⟩ 1 [UInt8.ofNat n] Tryz.underlying161 Tryz.underlying5 Tryz.underlying9 (by
      intro j hj
      simp at hj; subst hj
      simp [Addr.add, toNat_ofNat8 (n := n) (by omega)])
    simp only [List.length_cons, List.length_nil, Nat.zero_add] at hconv
    go_enter Tryz.func216, Tryz.ntmps216
    go_wp2
    go_ret
    exact ⟨by rw [HE.out]; rfl, (Below.refl _ _).alloc (Nat.le_refl _) _⟩
  · have hsi : ¬ (n : Int) < 128 := by omega
    have HE := Lib.hid (encN_big hs)
    go_enter Tryz.func216, Tryz.ntmps216
    go_wp2_with fail
    refine wp_region_stableD 9 [9, 10, 11, 12, 13, 14, 15, 16, 17] (by kernel_rfl) (by kernel_rfl) (by kernel_rfl) (fun W => Below w.heap.size w W) (fun W W' => Below W.heap.size W W')
      (putPhi n) (fun W W' h1 h2 => h1.trans (h2.mono h1.size)) (putPhi_keep n) (Below.refl _ _).drew ?step ?tail
    case step =>
      intro i o vs W hi ho hv hR hphi
      obtain ⟨v0, v1, v2, v3, v4, v5, v6, v7, v8, rfl⟩ := rp_list9 hv
      simp only [List.zip, List.zipWith, putAll, Act.put, List.setIfInBounds_toArray, List.set]
      have h0 : (0 : Int) ≤ (n : Int) := by omega
      match i, hi, ho with
      | 0, _, rfl => exact gives_value (w' := W) (by go_simp) ⟨Below.refl _ _, rfl⟩
      | 1, _, rfl =>
        have e0 : v0 = _ := hphi ⟨0, .data⟩ (by simp) rfl v0 rfl
        subst e0
        exact gives_value (v := .int .i64 ((n : Int) % 128)) (w' := W) (by go_simp; exact Int.tmod_eq_emod_of_nonneg h0) ⟨Below.refl _ _, rfl⟩
      | 2, _, rfl =>
        have e0 : v1 = _ := hphi ⟨1, .data⟩ (by simp) rfl v1 rfl
        subst e0
        exact gives_value (v := .int .i64 (128 + (n : Int) % 128)) (w' := W) (by go_simp; exact IntWalk.i64_in _ (by omega)) ⟨Below.refl _ _, rfl⟩
      | 3, _, rfl =>
        have e0 : v2 = _ := hphi ⟨2, .data⟩ (by simp) rfl v2 rfl
        subst e0
        exact gives_value (v := .int .u8 (128 + (n : Int) % 128)) (w' := W) (by go_simp; exact IntWalk.u8_in _ (by omega)) ⟨Below.refl _ _, rfl⟩
      | 4, _, rfl =>
        have e0 : v3 = _ := hphi ⟨3, .data⟩ (by simp) rfl v3 rfl
        subst e0
        exact gives_value (v := .slice (some ⟨W.heap.size, 0, none⟩) 1 1) (w' := W.alloc (.cells #[.int .u8 (128 + (n : Int) % 128)] 5)) (by go_simp) ⟨(Below.refl _ _).alloc (Nat.le_refl _) _, W.heap.size, rfl, by simp, by simp⟩
      | 5, _, rfl =>
        obtain ⟨g, e0, hg, hc⟩ : ∃ g, v4 = .slice (some ⟨g, 0, none⟩) 1 1 ∧ g < W.heap.size ∧ W.cell? ⟨g, 0, none⟩ = some (.int .u8 (128 + (n : Int) % 128)) := hphi ⟨4, .data⟩ (by simp) rfl v4 rfl
        subst e0
        have hconv := run_convert_bytes_back (P := Tryz.prog) W 161 9 5 ⟨g, 0, none⟩ 1 [UInt8.ofNat (n % 128 + 128)] Tryz.underlying161 Tryz.underlying5 Tryz.underlying9 (by
          intro j hj
          simp at hj; subst hj
          simp only [Addr.add, if_true, List.getElem_cons_zero, toNat_ofNat8 (n := n % 128 + 128) (by omega)]
          rw [hc]; congr 2; omega)
        simp only [List.length_cons, List.length_nil, Nat.zero_add] at hconv
        exact gives_value (v := .string (ofL [UInt8.ofNat (n % 128 + 128)])) (w' := W) (by go_simp; rfl) ⟨Below.refl _ _, rfl⟩
      | 6, _, rfl => exact gives_value (w' := W) (by go_simp) ⟨Below.refl _ _, rfl⟩
      | 7, _, rfl =>
        have e0 : v6 = _ := hphi ⟨6, .data⟩ (by simp) rfl v6 rfl
        subst e0
        exact gives_value (v := .int .i64 ((n : Int) / 128)) (w' := W) (by go_simp; exact IntWalk.i64_in _ (by omega)) ⟨Below.refl _ _, rfl⟩
      | 8, _, rfl =>
        have e0 : v7 = _ := hphi ⟨7, .data⟩ (by simp) rfl v7 rfl
        subst e0
        refine gives_call (f := 216) (args := #[.int .i64 ((n / 128 : Nat) : Int)]) (by go_simp) ((IH.out (n / 128) (by omega) (by omega) W).mono ?_)
        rintro e W' ⟨rfl, hb⟩
        exact ⟨_, rfl, hb, rfl⟩
    case tail =>
      intro vs W hv hR hphi
      obtain ⟨v0, v1, v2, v3, v4, v5, v6, v7, v8, rfl⟩ := rp_list9 hv
      simp only [List.zip, List.zipWith, putAll, Act.put, List.setIfInBounds_toArray, List.set, List.drop]
      have e5 : v5 = .string (ofL [UInt8.ofNat (n % 128 + 128)]) := hphi 5 v5 rfl
      have e8 : v8 = .string (ofL (encN (n / 128))) := hphi 8 v8 rfl
      subst e5 e8
      have HR := Lib.hid hR
      clear hphi hR
      have hl1 : (ofL [UInt8.ofNat (n % 128 + 128)]).size = 1 := rfl
      have hl2 : (ofL (encN (n / 128))).size ≤ 10 := by rw [size_ofL]; exact encN_len 9 _ (by omega)
      have HF : Hid (ofL [UInt8.ofNat (n % 128 + 128)] ++ ofL (encN (n / 128)) = ofL (encN n)) := by
        show _ = _
        rw [ofL_append, HE.out]; rfl
      generalize ofL [UInt8.ofNat (n % 128 + 128)] = p at *
      generalize ofL (encN (n / 128)) = q at *
      have hsum : p.size + q.size ≤ 9223372036854775807 := by omega
      clear hl1 hl2
      go_wp2
      go_ret
      exact ⟨by rw [HF.out]; rfl, HR.out⟩

set_option maxHeartbeats 1000000 in
theorem refPutInt_any (n : Nat) (hn : n ≤ 1099511627776) (w : World) :
    Calls Tryz.prog 202 #[.int .i64 n] w fun e w' => e = .returned (.tuple #[.string (ofL (encN n)), .int .i64 0]) ∧ Below w.heap.size w w' := by
  have h0 : ¬ (n : Int) < 0 := by omega
  have h1 : ¬ (1099511627776 : Int) < (n : Int) := by omega
  go_enter Tryz.func202, Tryz.ntmps202
  go_wp2_with fail
  refine (put_any n (by omega) _).mono ?_
  rintro e w1 ⟨rfl, hb1⟩
  have HB1 := Lib.hid hb1; clear hb1
  go_wp2_with fail
  go_ret2
  exact ⟨rfl, HB1.out⟩

set_option maxHeartbeats 1000000 in
theorem refPutText_any (s : ByteArray) (hs : s.size ≤ 65536) (w : World) :
    Calls Tryz.prog 203 #[.string s] w fun e w' => e = .returned (.tuple #[.string (ofL (encT (toL s))), .int .i64 0]) ∧ Below w.heap.size w w' := by
  have hsi : ¬ (65536 : Int) < (s.size : Int) := by omega
  go_enter Tryz.func203, Tryz.ntmps203
  go_wp2_with fail
  refine (put_any s.size (by omega) _).mono ?_
  rintro e w1 ⟨rfl, hb1⟩
  have HB1 := Lib.hid hb1; clear hb1
  have hl2 : (ofL (encN s.size)).size ≤ 6 := by rw [size_ofL]; exact encN_len 5 _ (by omega)
  have HF : Hid (ofL (encN s.size) ++ s = ofL (encT (toL s))) := by
    show _ = _
    unfold encT
    rw [← size_toL, ← ofL_append, ofL_toL]
  generalize ofL (encN s.size) = q at *
  have hsum : q.size + s.size ≤ 9223372036854775807 := by omega
  go_wp2_with fail
  go_ret2
  exact ⟨by rw [HF.out]; rfl, HB1.out⟩
end Go.Proofs.YtmdhlkkekidknaaGreatDoor

namespace Go.Proofs.YtmdhlkkekidknaaGreatDoor
open Go.RowKit Go.Maps

def upB : Option ByteArray → ByteArray → Bool
  | none, _ => true
  | some q, s => less q s
def tchk : Option ByteArray → List Fl → Int
  | _, [] => 0
  | p, f :: r => if pathB f.1 = true then (if upB p f.1 = true then tchk (some f.1) r else 10) else 6
def prevT (fs : List Fl) (k : Nat) : Option ByteArray := if k = 0 then none else (fs[k - 1]?).map Prod.fst
theorem tchk_at {fs : List Fl} {k : Nat} {f : Fl} (h : fs[k]? = some f) : tchk (prevT fs k) (fs.drop k) = if pathB f.1 = true then (if upB (prevT fs k) f.1 = true then tchk (prevT fs (k + 1)) (fs.drop (k + 1)) else 10) else 6 := by
  have hp : prevT fs (k + 1) = some f.1 := by unfold prevT; rw [if_neg (by omega), Nat.add_sub_cancel, h]; rfl
  rw [List.drop_eq_getElem_cons (List.getElem?_eq_some_iff.1 h).1, (List.getElem?_eq_some_iff.1 h).2, tchk, hp]
def dirAt (ps : List ByteArray) (s : ByteArray) (k : Nat) : Bool := decide ((bl s)[k]? = some 47) && memB ps (s.extract 0 k)
def DirE (fs : List Fl) : Prop := ∃ f ∈ fs, ∃ j, j < f.1.size ∧ dirAt (fs.map Prod.fst) f.1 j = true
def TckR (fs : List Fl) (err : Int) : Prop :=
  (200 < fs.length ∧ err = 4) ∨ (fs.length ≤ 200 ∧ tchk none fs ≠ 0 ∧ err = tchk none fs) ∨ (fs.length ≤ 200 ∧ tchk none fs = 0 ∧ ((DirE fs ∧ err = 7) ∨ (¬ DirE fs ∧ err = 0)))
theorem TckR.same {fs : List Fl} {e f : Int} (h : TckR fs e) (g : TckR fs f) : e = f := by
  rcases h with ⟨h1, h2⟩ | ⟨h1, h2, h3⟩ | ⟨h1, h2, h3⟩
  · rcases g with ⟨_, g2⟩ | ⟨g1, _⟩ | ⟨g1, _⟩
    · rw [h2, g2]
    · omega
    · omega
  · rcases g with ⟨g1, _⟩ | ⟨_, _, g3⟩ | ⟨_, g2, _⟩
    · omega
    · rw [h3, g3]
    · exact absurd g2 h2
  · rcases g with ⟨g1, _⟩ | ⟨_, g2, _⟩ | ⟨_, _, g3⟩
    · omega
    · exact absurd h2 g2
    · rcases h3 with ⟨h3, h4⟩ | ⟨h3, h4⟩
      · rcases g3 with ⟨_, g4⟩ | ⟨g3, _⟩
        · rw [h4, g4]
        · exact absurd h3 g3
      · rcases g3 with ⟨g3, _⟩ | ⟨_, g4⟩
        · exact absurd g3 h3
        · rw [h4, g4]

set_option maxRecDepth 100000 in
set_option maxHeartbeats 8000000 in
theorem tcheck_any (A : Option Addr) (n c B : Nat) (fs : List Fl) (w : World) (h0 : Sl w B 2 A n (flat flC fs)) (hB : B ≤ w.heap.size) (hn : n ≤ 1000000) (hsz : ∀ f ∈ fs, f.1.size ≤ 1000000 ∧ f.2.size ≤ 60000) :
    Calls Tryz.prog 22 #[.slice A n c] w fun e w' => ∃ err, e = .returned (.int .i64 err) ∧ TckR fs err ∧ Below w.heap.size w w' := by
  have HL := Lib.hid (h0.len flC_len (by omega))
  have H0 := Lib.hid h0; have HSZ := Lib.hid hsz
  clear h0 hsz
  have hmm := @run_makeMap Tryz.prog
  have hzz := Tryz.zeroValue4
  go_enter Tryz.func22, Tryz.ntmps22
  by_cases hbig : (200 : Int) < (n : Int)
  · have HE : Hid (TckR fs 4) := .inl ⟨by rw [HL.out]; omega, rfl⟩
    go_wp2_with fail
    go_ret
    exact ⟨4, rfl, HE.out, Below.refl _ _⟩
  have hsm : n ≤ 200 := by omega
  have HM0 : Hid (Rm (w.alloc (.map #[] 0)) Tryz.prog 9 w.heap.size 0 (pG ((fs.take 0).map Prod.fst))) := by
    show Rm _ _ _ _ _ (pG []); rw [pG_nil]; exact Rm.made w Tryz.prog 9
  obtain ⟨r, hr⟩ : ∃ r, tchk none fs = r := ⟨_, rfl⟩
  have HR := Lib.hid hr
  clear hr
  go_wp2_with fail
  go_loopw [15] (fun i wr => ∃ k : Nat, k ≤ n ∧ i = .int .i64 k ∧ Hid (Rm wr Tryz.prog 9 w.heap.size k (pG ((fs.take k).map Prod.fst))) ∧ Hid (r = tchk (prevT fs k) (fs.drop k)) ∧ Hid (Below w.heap.size w wr) ∧ w.heap.size < wr.heap.size) (fun i _ => n - (intOf i).toNat)
  case atStart => exact ⟨0, Nat.zero_le _, rfl, HM0.out, HR.out.symm, (Below.refl _ w).alloc (Nat.le_refl _) _, by simp⟩
  case round =>
    obtain ⟨k, hk, rfl, hM, hC, hBel, hwz⟩ := hrel
    by_cases hlt : k < n
    · obtain ⟨b, off, f, rfl, hbB, hf, y0, y1⟩ := (H0.out.below hBel.out hB).fl hlt
      have hlz : (k : Int) < (n : Int) := by omega
      have HF := Lib.hid hf
      have hfs := HSZ.out f (List.mem_of_getElem? hf)
      have hfm : f.1.size ≤ maxLen := by unfold maxLen; omega
      have HC := hC
      rw [tchk_at hf] at HC
      obtain ⟨W2, hW2⟩ : ∃ W2, wr.alloc (.cells #[.string f.1, .string f.2] 68) = W2 := ⟨_, rfl⟩
      have HK2 : Hid (Bk W2 wr.heap.size 68 #[.string f.1, .string f.2]) := by rw [← hW2]; exact Bk.new wr _ _
      have zW2 : W2.heap.size = wr.heap.size + 1 := by rw [← hW2]; simp
      have HB2 : Hid (Below wr.heap.size wr W2) := by rw [← hW2]; exact (Below.refl _ wr).alloc (Nat.le_refl _) _
      have HPT := Lib.hid (isPath_any f.1 W2 hfm)
      have x0 := HK2.out.cell 0
      simp at x0
      have HTK := Lib.hid (take_snoc hf)
      clear hf
      go_wp2_with (go_at_call 48; refine HPT.out.mono ?_; rintro e w3 ⟨rfl, hb3⟩; refine halt_ ?_)
      refine unhalt ?_
      have HB3 : Hid (Below wr.heap.size wr w3) := HB2.out.trans (hb3.mono (by omega))
      have HK3 := Lib.hid (HK2.out.below hb3 (by omega))
      have hz3 := hb3.size
      have x0 := HK3.out.cell 0; have x1 := HK3.out.cell 1
      simp at x0 x1
      clear hb3 HPT hW2
      cases hp : pathB f.1 with
      | false =>
        have HE : Hid (TckR fs 6) := .inr (.inl ⟨by rw [HL.out]; omega, by rw [HR.out, HC.out, hp]; simp, by rw [HR.out, HC.out, hp]; simp⟩)
        clear hp
        go_wp2_with fail
        go_ret
        exact ⟨6, rfl, HE.out, hBel.out.trans (HB3.out.mono (by omega))⟩
      | true =>
        rw [hp, if_pos rfl] at HC
        have HBL := Lib.hid (blob_any f.2 w3)
        clear hp
        go_wp2_with (go_at_call 56; refine HBL.out.mono ?_; rintro e w4 ⟨rfl, hb4⟩; refine halt_ ?_)
        refine unhalt ?_
        have HOC := Lib.hid (ocheck_any f.2 w4 hfs.2)
        have HK4 := Lib.hid (HK3.out.below hb4 (by omega))
        have HB4 : Hid (Below wr.heap.size wr w4) := HB3.out.trans (hb4.mono (by omega))
        have hz4 := hb4.size
        clear hb4 HBL x0 x1
        go_wp2_with (go_at_call 55; refine HOC.out.mono ?_; rintro e w5 ⟨rfl, hb5⟩; refine halt_ ?_)
        refine unhalt ?_
        have HK5 := Lib.hid (HK4.out.below hb5 (by omega))
        have HB5 : Hid (Below wr.heap.size wr w5) := HB4.out.trans (hb5.mono (by omega))
        have hz5 := hb5.size
        clear hb5 HOC
        obtain ⟨q5, hq5⟩ : ∃ q5 : Nat, q5 = 0 := ⟨0, rfl⟩
        cases k with
        | zero =>
          have HN : Hid (r = tchk (prevT fs 1) (fs.drop 1)) := by
            show _ = _
            rw [HC.out, if_pos]
            simp [prevT, upB]
          have HM5 := Lib.hid (hM.out.below HB5.out hwz)
          clear HC hC
          go_wp2_with fail
          go_quiet (fail)
          have HK6 := Lib.hid (HK5.out.drewN nq)
          have HM6 : Hid (Rm (w5.drewN nq) Tryz.prog 9 w.heap.size 0 (pG ((fs.take 0).map Prod.fst))) := HM5.out.below (below_drewN (Below.refl _ w5) nq) (by omega)
          have HB6 : Hid (Below wr.heap.size wr (w5.drewN nq)) := below_drewN HB5.out nq
          have x0 := HK6.out.cell 0
          simp at x0
          go_wp2_with (at_mapUpdate; refine halt_ ?_)
          refine unhalt ?_
          refine wpList_put_rm rfl _ _ _ 77 rfl 9 4 Tryz.underlying9 Tryz.underlying77 w.heap.size 0 _ rfl HM6.out (by unfold maxLen; omega) f.1 hfm _ rfl rfl ?_
          intro w7 hM7 hg7
          replace hM7 : Rm w7 Tryz.prog 9 w.heap.size (0 + 1) (upd (pG ((fs.take 0).map Prod.fst)) f.1 (.bool true)) := hM7
          rw [← pG_snoc] at hM7
          have HM7 : Hid (Rm w7 Tryz.prog 9 w.heap.size (0 + 1) (pG ((fs.take (0 + 1)).map Prod.fst))) := by show Rm _ _ _ _ _ _; rw [HTK.out, List.map_append]; exact hM7
          have HB7 : Hid (Below w.heap.size w w7) := (hBel.out.trans (HB6.out.mono (by omega))).grown hg7 (by have := HB6.out.size; omega) (fun q e => by cases e; omega)
          have hz7 := hg7.size
          have hz6 : wr.heap.size ≤ (w5.drewN nq).heap.size := HB6.out.size
          clear hM7 hg7 x0
          go_wp2_with fail
          go_roundw
          case rel => exact ⟨0 + 1, by omega, by go_num, HM7.out, HN.out, HB7.out, by omega⟩
          case measure => simp [intOf]; omega
        | succ k =>
          have HM5 := Lib.hid (hM.out.below HB5.out hwz)
          have hBe5 : Below w.heap.size w w5 := hBel.out.trans (HB5.out.mono (by omega))
          obtain ⟨b', off', p, hbe, _, hpp, p0, _⟩ := (H0.out.below hBe5 hB).fl (show k < n by omega)
          cases hbe
          obtain ⟨le, hle⟩ : ∃ le, (Op.bytesLess f.1.toList p.1.toList || f.1.toList == p.1.toList) = le := ⟨_, rfl⟩
          have hls := le_not_less hle
          have hpv : prevT fs (k + 1) = some p.1 := by unfold prevT; rw [if_neg (by omega), Nat.add_sub_cancel, hpp]; rfl
          rw [hpv, upB] at HC
          have hg0 : decide ((0 : Int) < ((k + 1 : Nat) : Int)) = true := by rw [decide_eq_true_iff]; omega
          have x5 := HK5.out.cell 0
          simp at x5
          clear hpp hpv hC hBe5
          rw [hls] at HC
          clear hls
          cases le with
          | false =>
            have HN : Hid (r = tchk (prevT fs (k + 1 + 1)) (fs.drop (k + 1 + 1))) := by show _ = _; rw [HC.out, if_pos (by decide)]
            clear HC
            go_wp2_with fail
            go_quiet (fail)
            clear x5 p0 hle
            have HK6 := Lib.hid (HK5.out.drewN nq)
            have HM6 : Hid (Rm (w5.drewN nq) Tryz.prog 9 w.heap.size (k + 1) (pG ((fs.take (k + 1)).map Prod.fst))) := HM5.out.below (below_drewN (Below.refl _ w5) nq) (by omega)
            have HB6 : Hid (Below wr.heap.size wr (w5.drewN nq)) := below_drewN HB5.out nq
            have x0 := HK6.out.cell 0
            simp at x0
            go_wp2_with (at_mapUpdate; refine halt_ ?_)
            refine unhalt ?_
            refine wpList_put_rm rfl _ _ _ 77 rfl 9 4 Tryz.underlying9 Tryz.underlying77 w.heap.size (k + 1) _ rfl HM6.out (by unfold maxLen; omega) f.1 hfm _ rfl rfl ?_
            intro w7 hM7 hg7
            replace hM7 : Rm w7 Tryz.prog 9 w.heap.size ((k + 1) + 1) (upd (pG ((fs.take (k + 1)).map Prod.fst)) f.1 (.bool true)) := hM7
            rw [← pG_snoc] at hM7
            have HM7 : Hid (Rm w7 Tryz.prog 9 w.heap.size ((k + 1) + 1) (pG ((fs.take ((k + 1) + 1)).map Prod.fst))) := by show Rm _ _ _ _ _ _; rw [HTK.out, List.map_append]; exact hM7
            have HB7 : Hid (Below w.heap.size w w7) := (hBel.out.trans (HB6.out.mono (by omega))).grown hg7 (by have := HB6.out.size; omega) (fun q e => by cases e; omega)
            have hz7 := hg7.size
            have hz6 : wr.heap.size ≤ (w5.drewN nq).heap.size := HB6.out.size
            clear hM7 hg7 x0
            go_wp2_with fail
            go_roundw
            case rel => exact ⟨(k + 1) + 1, by omega, by go_num, HM7.out, HN.out, HB7.out, by omega⟩
            case measure => simp [intOf]; omega
          | true =>
            have HE : Hid (TckR fs 10) := .inr (.inl ⟨by rw [HL.out]; omega, by rw [HR.out, HC.out]; simp, by rw [HR.out, HC.out]; simp⟩)
            clear HC
            go_wp2_with fail
            go_quiet (fail)
            go_wp2_with fail
            go_ret
            exact ⟨10, rfl, HE.out, hBel.out.trans (below_drewN (HB5.out.mono (by omega)) _)⟩
    · have hlz : ¬ (k : Int) < (n : Int) := by omega
      have HZ : Hid (tchk none fs = 0) := by
        show _ = _
        rw [HR.out, hC.out, List.drop_of_length_le (by rw [HL.out]; omega)]
        rfl
      have HMP : Hid (Rm wr Tryz.prog 9 w.heap.size k (pG (fs.map Prod.fst))) := by
        have h1 := hM.out
        rw [List.take_of_length_le (by rw [HL.out]; omega)] at h1
        exact h1
      have HBE := Lib.hid hBel.out
      obtain ⟨we, hwe⟩ : ∃ we, we = wr := ⟨_, rfl⟩
      subst hwe
      clear hM hC hBel
      go_wp2_with fail
      go_loopw [51] (fun i wr => ∃ j : Nat, j ≤ n ∧ i = .int .i64 j ∧ Hid (∀ f ∈ fs.take j, ∀ q, q < f.1.size → dirAt (fs.map Prod.fst) f.1 q = false) ∧ Hid (Below we.heap.size we wr)) (fun i _ => n - (intOf i).toNat)
      case atStart => exact ⟨0, Nat.zero_le _, rfl, fun f hf => by simp at hf, Below.refl _ _⟩
      case round =>
        obtain ⟨j, hj, rfl, hNo, hBj⟩ := hrel
        have hwj := hBj.out.size
        by_cases hjn : j < n
        · have hBw2 : Below w.heap.size w wr := HBE.out.trans (hBj.out.mono (by omega))
          obtain ⟨b, off, f, rfl, hbB, hf, y0, y1⟩ := (H0.out.below hBw2 hB).fl hjn
          have hjz : (j : Int) < (n : Int) := by omega
          have HF := Lib.hid hf
          have hfs := HSZ.out f (List.mem_of_getElem? hf)
          obtain ⟨W2, hW2⟩ : ∃ W2, wr.alloc (.cells #[.string f.1, .string f.2] 68) = W2 := ⟨_, rfl⟩
          have HK2 : Hid (Bk W2 wr.heap.size 68 #[.string f.1, .string f.2]) := by rw [← hW2]; exact Bk.new wr _ _
          have HB2 : Hid (Below we.heap.size we W2) := by rw [← hW2]; exact hBj.out.alloc hwj _
          have HM2 := Lib.hid (HMP.out.below HB2.out hwz)
          have x0 := HK2.out.cell 0
          simp at x0
          obtain ⟨wm, hwm⟩ : ∃ wm, wm = wr := ⟨_, rfl⟩
          subst hwm
          clear hf hBw2
          go_wp2_with fail
          clear hW2
          go_loopw [58] (fun i wr => ∃ q : Nat, q ≤ f.1.size ∧ i = .int .i64 q ∧ Hid (∀ m, m < q → dirAt (fs.map Prod.fst) f.1 m = false) ∧ wr = W2) (fun i _ => f.1.size - (intOf i).toNat)
          case atStart => exact ⟨0, Nat.zero_le _, rfl, fun m hm => absurd hm (by omega), rfl⟩
          case round =>
            obtain ⟨q, hq, rfl, hNq, rfl⟩ := hrel
            by_cases hqs : q < f.1.size
            · have hqz : (q : Int) < (f.1.size : Int) := by omega
              have hql : (q : Int) ≤ (f.1.size : Int) := by omega
              have hxs : (f.1.extract 0 q).size ≤ maxLen := by simp; unfold maxLen; omega
              have hg := get_data f.1 q hqs
              have HG : Hid ((bl f.1)[q]? = some f.1[q]) := hg
              have hlk := HM2.out.look Tryz.underlying9 Tryz.underlying77 (hzz _) hxs
              rw [pG_get] at hlk
              clear hg
              by_cases h47 : f.1[q] = 47
              · have t1 : (((f.1[q].toNat : Nat) : Int) == 47) = true := by simp [h47]
                cases hm : memB (fs.map Prod.fst) (f.1.extract 0 q) with
                | true =>
                  have HE : Hid (TckR fs 7) := .inr (.inr ⟨by rw [HL.out]; omega, HZ.out, .inl ⟨⟨f, List.mem_of_getElem? HF.out, q, hqs, by unfold dirAt; rw [HG.out, h47, hm]; rfl⟩, rfl⟩⟩)
                  rw [hm] at hlk
                  clear hm h47
                  go_wp2_with fail
                  go_ret
                  exact ⟨7, rfl, HE.out, HBE.out.trans (HB2.out.mono (by omega))⟩
                | false =>
                  have HN2 : Hid (∀ m, m < q + 1 → dirAt (fs.map Prod.fst) f.1 m = false) := fun m hm' => by
                    by_cases e : m = q
                    · subst e; unfold dirAt; rw [hm]; simp
                    · exact hNq.out m (by omega)
                  rw [hm] at hlk
                  clear hm h47 hNq
                  go_wp2_with fail
                  go_roundw
                  case rel => exact ⟨q + 1, hqs, by go_num, HN2.out, trivial⟩
                  case measure => simp [intOf]; omega
              · have t1 : (((f.1[q].toNat : Nat) : Int) == 47) = false := by
                  rw [beq_eq_false_iff_ne]; intro e
                  apply h47
                  apply UInt8.toNat_inj.1
                  show f.1[q].toNat = 47
                  omega
                have HN2 : Hid (∀ m, m < q + 1 → dirAt (fs.map Prod.fst) f.1 m = false) := fun m hm' => by
                  by_cases e : m = q
                  · subst e; unfold dirAt; rw [HG.out, decide_eq_false (fun e => h47 (Option.some.inj e)), Bool.false_and]
                  · exact hNq.out m (by omega)
                clear h47 hNq
                go_wp2_with fail
                go_roundw
                case rel => exact ⟨q + 1, hqs, by go_num, HN2.out, trivial⟩
                case measure => simp [intOf]; omega
            · have hqz : ¬ (q : Int) < (f.1.size : Int) := by omega
              have HN3 : Hid (∀ g ∈ fs.take (j + 1), ∀ q, q < g.1.size → dirAt (fs.map Prod.fst) g.1 q = false) := fun g hg => by
                rw [take_snoc HF.out] at hg
                rcases List.mem_append.1 hg with hg | hg
                · exact hNo.out g hg
                · rw [List.mem_singleton.1 hg]; exact fun m hm => hNq.out m (by omega)
              clear hNq hNo
              go_wp2_with fail
              go_roundw
              case rel => exact ⟨j + 1, hjn, by go_num, HN3.out, HB2.out⟩
              case measure => simp [intOf]; omega
        · have hjz : ¬ (j : Int) < (n : Int) := by omega
          have HE : Hid (TckR fs 0) := .inr (.inr ⟨by rw [HL.out]; omega, HZ.out, .inr ⟨(fun h => by
            obtain ⟨f, hf, q, hq, hd⟩ := h
            have := hNo.out f (by rw [List.take_of_length_le (by rw [HL.out]; omega)]; exact hf) q hq
            rw [this] at hd; cases hd), rfl⟩⟩)
          clear hNo
          go_wp2_with fail
          go_ret
          exact ⟨0, rfl, HE.out, HBE.out.trans (hBj.out.mono (by omega))⟩
end Go.Proofs.YtmdhlkkekidknaaGreatDoor

namespace Go.Proofs.YtmdhlkkekidknaaGreatDoor
open Go.RowKit Go.Shelf

set_option maxHeartbeats 2000000 in
theorem path9_any (s : ByteArray) (w : World) (hs : s.size ≤ 1000000) :
    Calls Tryz.prog 63 #[.string s] w fun e w' => e = .returned (.bool (pathB s)) ∧ Below w.heap.size w w' := by
  have HL := Lib.hid (size_len s)
  by_cases c1 : 100 < (s.size : Int)
  · have hv : Hid (pathB s = false) := by
      show _ = _
      have := HL.out
      unfold pathB bl; rw [decide_eq_false (by omega), Bool.false_and]
    go_enter Tryz.func63, Tryz.ntmps63
    go_wp2_with fail
    go_ret
    exact ⟨ret_bool hv.out.symm, Below.refl _ _⟩
  have HN : Hid (pathB s = (splitS (bl s)).all nameL) := by
    show _ = _
    have := HL.out
    unfold pathB; rw [decide_eq_true (by unfold bl; omega), Bool.true_and]
  have hs1 : s.size ≤ 100 := by omega
  go_enter Tryz.func63, Tryz.ntmps63
  go_wp2_with fail
  go_loopw [0] (fun a wr => ∃ (t : ByteArray), t.size ≤ 100 ∧ a = .string t ∧ Hid ((splitS (bl s)).all nameL = (splitS (bl t)).all nameL) ∧ Hid (Below w.heap.size w wr)) (fun a _ => szOf a)
  case atStart => exact ⟨s, hs1, rfl, rfl, Below.refl _ _⟩
  case round =>
    obtain ⟨t, ht, rfl, hA, hBel⟩ := hrel
    have HCT := Lib.hid (cut9_any t wr (by omega))
    have htl2 : (bl t).length = t.size := (size_len t).symm
    have HSP := Lib.hid (splitS_slash (bl t))
    rw [htl2] at HSP
    have HTL := Lib.hid htl2
    clear htl2
    go_wp2_with (go_at_call 75; refine HCT.out.mono ?_; rintro e w2 ⟨a, b, m, rfl, hc, hb2⟩; refine halt_ ?_)
    refine unhalt ?_
    have HB2 : Hid (Below w.heap.size w w2) := hBel.out.trans (hb2.mono hBel.out.size)
    clear hb2 HCT
    rcases hc with ⟨hk, rfl, rfl, rfl⟩ | ⟨hk, rfl, rfl, rfl⟩
    · obtain ⟨k, hkk⟩ : ∃ k, slashL (bl t) = k := ⟨_, rfl⟩
      rw [hkk] at hk HSP ⊢
      clear hkk
      have HEX : Hid (bl (t.extract 0 k) = (bl t).take k) := by show _ = _; unfold bl; rw [extract_list]; simp
      have HEY : Hid (bl (t.extract (k + 1) t.size) = (bl t).drop (k + 1)) := by
        show _ = _
        have h2 := HTL.out
        unfold bl at h2 ⊢; rw [extract_list, List.take_of_length_le (by rw [List.length_drop]; omega)]
      have HSP2 : Hid (splitS (bl t) = (bl t).take k :: splitS ((bl t).drop (k + 1))) := by show _ = _; rw [HSP.out, if_pos hk]
      have HNM := Lib.hid (vname7_any (t.extract 0 k) w2 (by rw [ByteArray.size_extract]; unfold maxLen; omega))
      cases hp : nameB (t.extract 0 k) with
      | false =>
        have hF : Hid (pathB s = false) := by
          show _ = _
          rw [HN.out, hA.out, HSP2.out, List.all_cons, ← HEX.out]
          show (nameB (t.extract 0 k) && _) = false
          rw [hp, Bool.false_and]
        rw [hp] at HNM
        clear hp
        go_wp2_with (go_at_call 116; refine HNM.out.mono ?_; rintro e w' ⟨rfl, rfl⟩)
        go_ret
        exact ⟨ret_bool hF.out.symm, HB2.out⟩
      | true =>
        have HA2 : Hid ((splitS (bl s)).all nameL = (splitS (bl (t.extract (k + 1) t.size))).all nameL) := by
          show _ = _
          rw [hA.out, HSP2.out, List.all_cons, ← HEX.out, HEY.out]
          show (nameB (t.extract 0 k) && _) = _
          rw [hp, Bool.true_and]
        have hz2 : (t.extract (k + 1) t.size).size = t.size - (k + 1) := by rw [ByteArray.size_extract]; omega
        have HZ2 := Lib.hid hz2
        rw [hp] at HNM
        clear hp hz2
        go_wp2_with (go_at_call 116; refine HNM.out.mono ?_; rintro e w' ⟨rfl, rfl⟩)
        go_roundw
        case rel => exact ⟨_, by rw [HZ2.out]; omega, rfl, HA2.out, HB2.out⟩
        case measure => show (t.extract (k + 1) t.size).size < t.size; rw [HZ2.out]; omega
    · have HNM := Lib.hid (vname7_any a w2 (by unfold maxLen; omega))
      have hF : Hid (pathB s = nameB a) := by
        show _ = _
        rw [HN.out, hA.out, HSP.out, if_neg (by omega)]; simp [nameB]
      cases hp : nameB a with
      | false =>
        rw [hp] at HNM hF
        clear hp
        go_wp2_with (go_at_call 116; refine HNM.out.mono ?_; rintro e w' ⟨rfl, rfl⟩)
        go_ret
        exact ⟨ret_bool hF.out.symm, HB2.out⟩
      | true =>
        rw [hp] at HNM hF
        clear hp
        go_wp2_with (go_at_call 116; refine HNM.out.mono ?_; rintro e w' ⟨rfl, rfl⟩)
        go_ret
        exact ⟨ret_bool hF.out.symm, HB2.out⟩
def belB (d p : ByteArray) : Bool := decide (d.size < p.size) && (decide (p.extract 0 d.size = d) && decide ((bl p)[d.size]? = some 47))
set_option maxHeartbeats 2000000 in
theorem below9_any (d p : ByteArray) (w : World) :
    Calls Tryz.prog 84 #[.string d, .string p] w fun e w' => e = .returned (.bool (belB d p)) ∧ w = w' := by
  go_enter Tryz.func84, Tryz.ntmps84
  have HB : Hid (belB d p = (decide (d.size < p.size) && (decide (p.extract 0 d.size = d) && decide ((bl p)[d.size]? = some 47)))) := rfl
  by_cases c1 : d.size < p.size
  · have hz : (d.size : Int) < (p.size : Int) := by omega
    have hz1 : (d.size : Int) ≤ (p.size : Int) := by omega
    have hse := str_dec (p.extract 0 d.size) d
    have HG := Lib.hid (get_data p d.size c1)
    rw [decide_eq_true c1, Bool.true_and] at HB
    by_cases c2 : p.extract 0 d.size = d
    · rw [decide_eq_true c2, Bool.true_and] at HB
      rw [decide_eq_true c2] at hse
      by_cases c3 : p[d.size] = 47
      · have t1 : (((p[d.size].toNat : Nat) : Int) == 47) = true := by simp [c3]
        have HF : Hid (belB d p = true) := by show _ = _; rw [HB.out]; exact decide_eq_true (HG.out.trans (by rw [c3]))
        clear c2 c3
        go_wp2
        go_ret
        exact ⟨ret_bool HF.out.symm, rfl⟩
      · have t1 : (((p[d.size].toNat : Nat) : Int) == 47) = false := by
          rw [beq_eq_false_iff_ne]; intro e
          apply c3
          apply UInt8.toNat_inj.1
          show p[d.size].toNat = 47
          omega
        have HF : Hid (belB d p = false) := by show _ = _; rw [HB.out]; exact decide_eq_false fun h => c3 (Option.some.inj (HG.out.symm.trans h))
        clear c2 c3
        go_wp2
        go_ret
        exact ⟨ret_bool HF.out.symm, rfl⟩
    · rw [decide_eq_false c2, Bool.false_and] at HB
      rw [decide_eq_false c2] at hse
      clear c2
      go_wp2
      go_ret
      exact ⟨ret_bool HB.out.symm, rfl⟩
  · have hz : ¬ (d.size : Int) < (p.size : Int) := by omega
    rw [decide_eq_false c1, Bool.false_and] at HB
    go_wp2
    go_ret
    exact ⟨ret_bool HB.out.symm, rfl⟩
end Go.Proofs.YtmdhlkkekidknaaGreatDoor

namespace Go.Proofs.YtmdhlkkekidknaaGreatDoor
open Go.RowKit Go.Shelf

set_option maxHeartbeats 1000000 in
theorem num7b_any (n : Nat) (hn : n ≤ 1099511627776) (w : World) : Calls Tryz.prog 170 #[.int .i64 n] w fun e w' => e = .returned (.string (ofL (encN n))) ∧ Below w.heap.size w w' := by
  go_enter Tryz.func170, Tryz.ntmps170
  go_wp2_with fail
  refine (refPutInt_any n hn w).mono ?_
  rintro e w1 ⟨rfl, hb1⟩
  go_wp2_with fail
  go_ret
  exact ⟨rfl, hb1⟩
set_option maxHeartbeats 1000000 in
theorem txt7b_any (s : ByteArray) (hs : s.size ≤ 65536) (w : World) : Calls Tryz.prog 171 #[.string s] w fun e w' => e = .returned (.string (ofL (encT (toL s)))) ∧ Below w.heap.size w w' := by
  go_enter Tryz.func171, Tryz.ntmps171
  go_wp2_with fail
  refine (refPutText_any s hs w).mono ?_
  rintro e w1 ⟨rfl, hb1⟩
  go_wp2_with fail
  go_ret
  exact ⟨rfl, hb1⟩
set_option maxHeartbeats 1000000 in
theorem zero7b_any (w : World) : Calls Tryz.prog 201 #[.agg #[.int .u64 0, .int .u64 0]] w fun e w' => e = .returned (.bool true) ∧ Below w.heap.size w w' := by
  go_enter Tryz.func201, Tryz.ntmps201
  go_wp2
  all_goals (go_ret; exact ⟨rfl, (Below.refl _ w).alloc (Nat.le_refl _) _⟩)
set_option maxRecDepth 100000 in
set_option maxHeartbeats 2000000 in
theorem only7b_any (d : ByteArray) (w : World) : Calls Tryz.prog 167 #[.agg (blobC d)] w fun e w' => e = .returned (.bool true) ∧ Below w.heap.size w w' := by
  unfold blobC
  obtain ⟨W0, hW0⟩ : ∃ W0, w.alloc (.cells #[.int .i64 1, .string d, .slice none 0 0, .int .u64 0, .int .u64 0, .slice none 0 0, .string ⟨#[]⟩, .int .i64 0, .string ⟨#[]⟩] 82) = W0 := ⟨_, rfl⟩
  have HB0 : Hid (Below w.heap.size w W0) := by rw [← hW0]; exact (Below.refl _ w).alloc (Nat.le_refl _) _
  have HK0 : Hid (Bk W0 w.heap.size 82 #[.int .i64 1, .string d, .slice none 0 0, .int .u64 0, .int .u64 0, .slice none 0 0, .string ⟨#[]⟩, .int .i64 0, .string ⟨#[]⟩]) := by rw [← hW0]; exact Bk.new w _ _
  have zW0 : W0.heap.size = w.heap.size + 1 := by rw [← hW0]; simp
  have c0 := HK0.out.cell 0; have c1 := HK0.out.cell 1; have c2 := HK0.out.cell 2; have c3 := HK0.out.cell 3; have c4 := HK0.out.cell 4; have c5 := HK0.out.cell 5; have c6 := HK0.out.cell 6; have c7 := HK0.out.cell 7; have c8 := HK0.out.cell 8
  simp at c0 c1 c2 c3 c4 c5 c6 c7 c8
  go_enter Tryz.func167, Tryz.ntmps167
  go_wp2_with fail
  refine (zero7b_any W0).mono ?_
  rintro e w1 ⟨rfl, hb1⟩
  have HB1 : Hid (Below w.heap.size w w1) := HB0.out.trans (hb1.mono (by omega))
  have HK1 := Lib.hid (HK0.out.below hb1 (by omega))
  clear hb1 hW0 c0 c1 c2 c3 c4 c5 c6 c7 c8
  have c0 := HK1.out.cell 0; have c1 := HK1.out.cell 1; have c2 := HK1.out.cell 2; have c5 := HK1.out.cell 5; have c6 := HK1.out.cell 6; have c7 := HK1.out.cell 7; have c8 := HK1.out.cell 8
  simp at c0 c1 c2 c5 c6 c7 c8
  go_wp2_with fail
  go_ret
  exact ⟨rfl, HB1.out⟩
set_option maxRecDepth 100000 in
set_option maxHeartbeats 2000000 in
theorem fields7b_any (d : ByteArray) (w : World) (hd : d.size ≤ 60000) : Calls Tryz.prog 121 #[.agg (blobC d)] w fun e w' => e = .returned (.int .i64 0) ∧ Below w.heap.size w w' := by
  have HO := fun w => Lib.hid (only7b_any d w)
  unfold blobC at HO ⊢
  obtain ⟨W0, hW0⟩ : ∃ W0, w.alloc (.cells #[.int .i64 1, .string d, .slice none 0 0, .int .u64 0, .int .u64 0, .slice none 0 0, .string ⟨#[]⟩, .int .i64 0, .string ⟨#[]⟩] 82) = W0 := ⟨_, rfl⟩
  have HB0 : Hid (Below w.heap.size w W0) := by rw [← hW0]; exact (Below.refl _ w).alloc (Nat.le_refl _) _
  have HK0 : Hid (Bk W0 w.heap.size 82 #[.int .i64 1, .string d, .slice none 0 0, .int .u64 0, .int .u64 0, .slice none 0 0, .string ⟨#[]⟩, .int .i64 0, .string ⟨#[]⟩]) := by rw [← hW0]; exact Bk.new w _ _
  have zW0 : W0.heap.size = w.heap.size + 1 := by rw [← hW0]; simp
  have HO0 := HO W0
  have hdz : ¬ (65536 : Int) < (d.size : Int) := by omega
  have c0 := HK0.out.cell 0; have c1 := HK0.out.cell 1; have c2 := HK0.out.cell 2; have c3 := HK0.out.cell 3; have c4 := HK0.out.cell 4; have c5 := HK0.out.cell 5; have c6 := HK0.out.cell 6; have c7 := HK0.out.cell 7; have c8 := HK0.out.cell 8
  simp at c0 c1 c2 c3 c4 c5 c6 c7 c8
  clear HO
  go_enter Tryz.func121, Tryz.ntmps121
  go_wp2_with fail
  refine HO0.out.mono ?_
  rintro e w1 ⟨rfl, hb1⟩
  have HB1 : Hid (Below w.heap.size w w1) := HB0.out.trans (hb1.mono (by omega))
  have HK1 := Lib.hid (HK0.out.below hb1 (by omega))
  clear hb1 hW0 c0 c1 c2 c3 c4 c5 c6 c7 c8 HO0
  have c0 := HK1.out.cell 0; have c1 := HK1.out.cell 1
  simp at c0 c1
  go_wp2_with fail
  go_ret
  exact ⟨rfl, HB1.out⟩
set_option maxRecDepth 100000 in
set_option maxHeartbeats 2000000 in
theorem enc7b_any (d : ByteArray) (w : World) (hd : d.size ≤ 60000) : Calls Tryz.prog 122 #[.agg (blobC d)] w fun e w' => (∃ s : ByteArray, e = .returned (.string s) ∧ s.size ≤ 60007) ∧ Below w.heap.size w w' := by
  have hle : (encT (toL d)).length ≤ 60006 := by
    have h1 := encN_len 5 d.size (by omega)
    have hsd := size_toL d
    unfold encT; rw [List.length_append, ← hsd]; omega
  have hl1 : (encN 1).length = 1 := by rw [encN_small (by omega)]; rfl
  unfold blobC
  obtain ⟨W0, hW0⟩ : ∃ W0, w.alloc (.cells #[.int .i64 1, .string d, .slice none 0 0, .int .u64 0, .int .u64 0, .slice none 0 0, .string ⟨#[]⟩, .int .i64 0, .string ⟨#[]⟩] 82) = W0 := ⟨_, rfl⟩
  have HB0 : Hid (Below w.heap.size w W0) := by rw [← hW0]; exact (Below.refl _ w).alloc (Nat.le_refl _) _
  have HK0 : Hid (Bk W0 w.heap.size 82 #[.int .i64 1, .string d, .slice none 0 0, .int .u64 0, .int .u64 0, .slice none 0 0, .string ⟨#[]⟩, .int .i64 0, .string ⟨#[]⟩]) := by rw [← hW0]; exact Bk.new w _ _
  have zW0 : W0.heap.size = w.heap.size + 1 := by rw [← hW0]; simp
  have c0 := HK0.out.cell 0; have c1 := HK0.out.cell 1
  simp at c0 c1
  have HN := Lib.hid (num7b_any 1 (by omega) W0)
  have hs1 : (ofL (encN 1)).size = 1 := by rw [size_ofL, hl1]
  generalize ofL (encN 1) = s1 at HN hs1
  go_enter Tryz.func122, Tryz.ntmps122
  go_wp2_with fail
  refine HN.out.mono ?_
  rintro e w1 ⟨rfl, hb1⟩
  have HB1 : Hid (Below w.heap.size w w1) := HB0.out.trans (hb1.mono (by omega))
  have HK1 := Lib.hid (HK0.out.below hb1 (by omega))
  clear hb1 hW0 c0 c1 HN
  have HT := Lib.hid (txt7b_any d (by omega) w1)
  have hs2 : (ofL (encT (toL d))).size ≤ 60006 := by rw [size_ofL]; exact hle
  generalize ofL (encT (toL d)) = s2 at HT hs2
  have c0 := HK1.out.cell 0; have c1 := HK1.out.cell 1
  simp at c0 c1
  go_wp2_with fail
  refine HT.out.mono ?_
  rintro e w2 ⟨rfl, hb2⟩
  have HB2 : Hid (Below w.heap.size w w2) := HB1.out.trans (hb2.mono HB1.out.size)
  clear hb2 HT c0 c1
  have hsz : ¬ (9223372036854775807 < s1.size + s2.size) := by omega
  go_wp2_with fail
  go_ret
  exact ⟨⟨_, rfl, by rw [ByteArray.size_append]; omega⟩, HB2.out⟩
set_option maxRecDepth 100000 in
set_option maxHeartbeats 2000000 in
theorem check7b_any (d : ByteArray) (w : World) (hd : d.size ≤ 60000) : Calls Tryz.prog 82 #[.agg (blobC d)] w fun e w' => e = .returned (.int .i64 0) ∧ Below w.heap.size w w' := by
  have HF := fun w => Lib.hid (fields7b_any d w hd)
  have HE := fun w => Lib.hid (enc7b_any d w hd)
  unfold blobC at HF HE ⊢
  obtain ⟨W0, hW0⟩ : ∃ W0, w.alloc (.cells #[.int .i64 1, .string d, .slice none 0 0, .int .u64 0, .int .u64 0, .slice none 0 0, .string ⟨#[]⟩, .int .i64 0, .string ⟨#[]⟩] 82) = W0 := ⟨_, rfl⟩
  have HB0 : Hid (Below w.heap.size w W0) := by rw [← hW0]; exact (Below.refl _ w).alloc (Nat.le_refl _) _
  have HK0 : Hid (Bk W0 w.heap.size 82 #[.int .i64 1, .string d, .slice none 0 0, .int .u64 0, .int .u64 0, .slice none 0 0, .string ⟨#[]⟩, .int .i64 0, .string ⟨#[]⟩]) := by rw [← hW0]; exact Bk.new w _ _
  have zW0 : W0.heap.size = w.heap.size + 1 := by rw [← hW0]; simp
  have HF0 := HF W0
  have c0 := HK0.out.cell 0; have c1 := HK0.out.cell 1; have c2 := HK0.out.cell 2; have c3 := HK0.out.cell 3; have c4 := HK0.out.cell 4; have c5 := HK0.out.cell 5; have c6 := HK0.out.cell 6; have c7 := HK0.out.cell 7; have c8 := HK0.out.cell 8
  simp at c0 c1 c2 c3 c4 c5 c6 c7 c8
  clear HF
  go_enter Tryz.func82, Tryz.ntmps82
  go_wp2_with fail
  refine HF0.out.mono ?_
  rintro e w1 ⟨rfl, hb1⟩
  have HB1 : Hid (Below w.heap.size w w1) := HB0.out.trans (hb1.mono (by omega))
  have HK1 := Lib.hid (HK0.out.below hb1 (by omega))
  have HE1 := HE w1
  clear hb1 hW0 c0 c1 c2 c3 c4 c5 c6 c7 c8 HF0 HE
  have c0 := HK1.out.cell 0; have c1 := HK1.out.cell 1; have c2 := HK1.out.cell 2; have c3 := HK1.out.cell 3; have c4 := HK1.out.cell 4; have c5 := HK1.out.cell 5; have c6 := HK1.out.cell 6; have c7 := HK1.out.cell 7; have c8 := HK1.out.cell 8
  simp at c0 c1 c2 c3 c4 c5 c6 c7 c8
  go_wp2_with fail
  refine HE1.out.mono ?_
  rintro e w2 ⟨⟨s, rfl, hs⟩, hb2⟩
  have HB2 : Hid (Below w.heap.size w w2) := HB1.out.trans (hb2.mono HB1.out.size)
  have hsz : ¬ (65536 : Int) < (s.size : Int) := by omega
  clear hb2 HE1 c0 c1 c2 c3 c4 c5 c6 c7 c8
  go_wp2_with fail
  go_ret
  exact ⟨rfl, HB2.out⟩
theorem resultsBl9 {w : World} {a : Array Value} {b : Nat} {d : ByteArray} (ha : a[2]?.getD undef = .pointer (some ⟨b, 0, none⟩)) (h : Bk w b 82 (blobC d)) : (results Tryz.f83 a).run Tryz.prog w = .ok (.agg (blobC d)) w := by
  have c0 := h.cell 0; have c1 := h.cell 1; have c2 := h.cell 2; have c3 := h.cell 3; have c4 := h.cell 4; have c5 := h.cell 5; have c6 := h.cell 6; have c7 := h.cell 7; have c8 := h.cell 8
  simp [blobC] at c0 c1 c2 c3 c4 c5 c6 c7 c8
  simp [results, Tryz.results83, ha, go_sem, blobC, c0, c1, c2, c3, c4, c5, c6, c7, c8]
theorem blob9_any (d : ByteArray) (w : World) : Calls Tryz.prog 83 #[.string d] w fun e w' => e = .returned (.agg (blobC d)) ∧ Below w.heap.size w w' := by
  go_enter Tryz.func83, Tryz.ntmps83
  go_wp2
  have hk : Bk (w.alloc (.cells (blobC d) 82)) w.heap.size 82 (blobC d) := Bk.new w _ _
  exact bodyPost_ret (resultsBl9 rfl hk) rfl ⟨rfl, (Below.refl _ w).alloc (Nat.le_refl _) _⟩
end Go.Proofs.YtmdhlkkekidknaaGreatDoor

namespace Go.Proofs.YtmdhlkkekidknaaGreatDoor
open Go.RowKit Go.Shelf

theorem dirE_of {fs : List Fl} {f g : Fl} (hf : f ∈ fs) (hg : g ∈ fs) (h : belB f.1 g.1 = true) : DirE fs := by
  unfold belB at h
  simp only [Bool.and_eq_true, decide_eq_true_eq] at h
  obtain ⟨h1, h2, h3⟩ := h
  refine ⟨g, hg, f.1.size, h1, ?_⟩
  unfold dirAt
  rw [h2, decide_eq_true h3, Bool.true_and, memB_iff]
  exact List.mem_map_of_mem hf
theorem dirE_no {fs : List Fl} (h : ∀ f ∈ fs, ∀ g ∈ fs, belB f.1 g.1 = false) : ¬ DirE fs := by
  rintro ⟨g, hg, j, hj, hd⟩
  unfold dirAt at hd
  rw [Bool.and_eq_true, decide_eq_true_eq, memB_iff] at hd
  obtain ⟨h1, h2⟩ := hd
  obtain ⟨f, hf, e⟩ := List.mem_map.1 h2
  have := h f hf g hg
  have hs : f.1.size = j := by
    have := congrArg ByteArray.size e
    rw [ByteArray.size_extract] at this
    omega
  unfold belB at this
  rw [hs, ← e, decide_eq_true hj, decide_eq_true h1] at this
  simp at this
set_option maxRecDepth 100000 in
set_option maxHeartbeats 8000000 in
theorem check9_any (A : Option Addr) (n c B : Nat) (fs : List Fl) (w : World) (h0 : Sl w B 2 A n (flat flC fs)) (hB : B ≤ w.heap.size) (hn : n ≤ 1000000) (hsz : ∀ f ∈ fs, f.1.size ≤ 1000000 ∧ f.2.size ≤ 60000) :
    Calls Tryz.prog 40 #[.slice A n c] w fun e w' => ∃ err, e = .returned (.int .i64 err) ∧ TckR fs err ∧ Below w.heap.size w w' := by
  have HL := Lib.hid (h0.len flC_len (by omega))
  have H0 := Lib.hid h0; have HSZ := Lib.hid hsz
  clear h0 hsz
  go_enter Tryz.func40, Tryz.ntmps40
  by_cases hbig : (200 : Int) < (n : Int)
  · have HE : Hid (TckR fs 4) := .inl ⟨by rw [HL.out]; omega, rfl⟩
    go_wp2_with fail
    go_ret
    exact ⟨4, rfl, HE.out, Below.refl _ _⟩
  have hsm : n ≤ 200 := by omega
  obtain ⟨r, hr⟩ : ∃ r, tchk none fs = r := ⟨_, rfl⟩
  have HR := Lib.hid hr
  clear hr
  go_wp2_with fail
  go_loopw [3] (fun i wr => ∃ k : Nat, k ≤ n ∧ i = .int .i64 k ∧ Hid (r = tchk (prevT fs k) (fs.drop k)) ∧ Hid (Below w.heap.size w wr)) (fun i _ => n - (intOf i).toNat)
  case atStart => exact ⟨0, Nat.zero_le _, rfl, HR.out.symm, Below.refl _ _⟩
  case round =>
    obtain ⟨k, hk, rfl, hC, hBel⟩ := hrel
    by_cases hlt : k < n
    · obtain ⟨b, off, f, rfl, hbB, hf, y0, y1⟩ := (H0.out.below hBel.out hB).fl hlt
      have hlz : (k : Int) < (n : Int) := by omega
      have HF := Lib.hid hf
      have hfs := HSZ.out f (List.mem_of_getElem? hf)
      have HC := hC
      rw [tchk_at hf] at HC
      have HPT := Lib.hid (path9_any f.1 wr hfs.1)
      clear hf hC
      go_wp2_with (go_at_call 63; refine HPT.out.mono ?_; rintro e w3 ⟨rfl, hb3⟩; refine halt_ ?_)
      refine unhalt ?_
      have HB3 : Hid (Below w.heap.size w w3) := hBel.out.trans (hb3.mono hBel.out.size)
      have hz0 := hBel.out.size; have hz3 := hb3.size
      have y0 := (hb3.cell (p := ⟨b, off + k * 2, none⟩) (by show b < _; omega)).trans y0
      have y1 := (hb3.cell (p := ⟨b, off + k * 2 + 1, none⟩) (by show b < _; omega)).trans y1
      clear hb3 HPT
      cases hp : pathB f.1 with
      | false =>
        have HE : Hid (TckR fs 6) := .inr (.inl ⟨by rw [HL.out]; omega, by rw [HR.out, HC.out, hp]; simp, by rw [HR.out, HC.out, hp]; simp⟩)
        clear hp
        go_wp2_with fail
        go_ret
        exact ⟨6, rfl, HE.out, HB3.out⟩
      | true =>
        rw [hp, if_pos rfl] at HC
        have HBL := Lib.hid (blob9_any f.2 w3)
        clear hp
        go_wp2_with (go_at_call 83; refine HBL.out.mono ?_; rintro e w4 ⟨rfl, hb4⟩; refine halt_ ?_)
        refine unhalt ?_
        have HOC := Lib.hid (check7b_any f.2 w4 hfs.2)
        have HB4 : Hid (Below w.heap.size w w4) := HB3.out.trans (hb4.mono HB3.out.size)
        clear hb4 HBL y0 y1
        go_wp2_with (go_at_call 82; refine HOC.out.mono ?_; rintro e w5 ⟨rfl, hb5⟩; refine halt_ ?_)
        refine unhalt ?_
        have HB5 : Hid (Below w.heap.size w w5) := HB4.out.trans (hb5.mono HB4.out.size)
        clear hb5 HOC
        obtain ⟨b', off', f', hfe, hbB', hf', y0, y1⟩ := (H0.out.below HB5.out hB).fl hlt
        cases hfe
        obtain rfl : f' = f := by rw [HF.out] at hf'; exact (Option.some.inj hf').symm
        clear hf'
        cases k with
        | zero =>
          have HN : Hid (r = tchk (prevT fs 1) (fs.drop 1)) := by
            show _ = _
            rw [HC.out, if_pos]; rfl
          go_wp2_with fail
          go_quiet (fail)
          go_wp2_with fail
          go_roundw
          case rel => exact ⟨1, hlt, by first | rfl | go_num, HN.out, below_drewN HB5.out _⟩
          case measure => simp [intOf]; omega
        | succ j =>
          obtain ⟨b', off', p, hpe, hbp, hpf, z0, z1⟩ := (H0.out.below HB5.out hB).fl (k := j) (by omega)
          cases hpe
          have HPV : Hid (prevT fs (j + 1) = some p.1) := by show _ = _; unfold prevT; rw [if_neg (by omega), Nat.add_sub_cancel, hpf]; rfl
          have hle := less_str p.1 f'.1
          have hkp : (0 : Int) < ((j + 1 : Nat) : Int) := by omega
          have hw1 : IntKind.i64.wrap (((j + 1 : Nat) : Int) - 1) = (j : Int) := by rw [wrap_sm (by omega) (by omega)]; omega
          have hj1 : ¬ (j : Int) < 0 := by omega
          have hj2 : (j : Int) < (n : Int) := by omega
          clear hpf
          cases hl : less p.1 f'.1 with
          | true =>
            rw [hl] at hle
            have HN : Hid (r = tchk (prevT fs (j + 1 + 1)) (fs.drop (j + 1 + 1))) := by
              show _ = _
              rw [HC.out, if_pos]; rw [HPV.out]; exact hl
            clear hl
            go_wp2_with fail
            go_quiet (fail)
            go_wp2_with fail
            go_roundw
            case rel => exact ⟨j + 1 + 1, hlt, by go_num, HN.out, below_drewN HB5.out _⟩
            case measure => simp [intOf]; omega
          | false =>
            rw [hl] at hle
            have HE : Hid (TckR fs 10) := by
              have h1 : r = 10 := by rw [HC.out, if_neg]; rw [HPV.out]; show ¬ (less p.1 f'.1 = true); rw [hl]; simp
              exact .inr (.inl ⟨by rw [HL.out]; omega, by rw [HR.out, h1]; simp, by rw [HR.out, h1]⟩)
            clear hl
            go_wp2_with fail
            go_quiet (fail)
            go_wp2_with fail
            go_ret
            exact ⟨10, rfl, HE.out, below_drewN HB5.out _⟩
    · have hlz : ¬ (k : Int) < (n : Int) := by omega
      have HT0 : Hid (tchk none fs = 0) := by
        show _ = _
        rw [HR.out, hC.out, List.drop_of_length_le (by rw [HL.out]; omega)]
        rfl
      have HNO : Hid ((∀ f ∈ fs, ∀ g ∈ fs, belB f.1 g.1 = false) → TckR fs 0) := fun h => .inr (.inr ⟨by rw [HL.out]; omega, HT0.out, .inr ⟨dirE_no h, rfl⟩⟩)
      have HYE : Hid (∀ f ∈ fs, ∀ g ∈ fs, belB f.1 g.1 = true → TckR fs 7) := fun f hf g hg h => .inr (.inr ⟨by rw [HL.out]; omega, HT0.out, .inl ⟨dirE_of hf hg h, rfl⟩⟩)
      clear hC
      go_wp2_with fail
      obtain ⟨wo, hwo⟩ : ∃ wo, wo = wr := ⟨_, rfl⟩
      subst hwo
      go_loopw [4] (fun i wr => ∃ k : Nat, k ≤ n ∧ i = .int .i64 k ∧ Hid (∀ f ∈ fs.take k, ∀ g ∈ fs, belB f.1 g.1 = false) ∧ Hid (Below w.heap.size w wr)) (fun i _ => n - (intOf i).toNat)
      case atStart => exact ⟨0, Nat.zero_le _, rfl, fun f hf => by simp at hf, hBel.out⟩
      case round =>
        obtain ⟨i, hi, rfl, hI, hBr⟩ := hrel
        by_cases hil : i < n
        · have hiz : (i : Int) < (n : Int) := by omega
          obtain ⟨b, off, f, rfl, hbB, hf, y0, y1⟩ := (H0.out.below hBr.out hB).fl hil
          have HF := Lib.hid hf
          have HFM := Lib.hid (List.mem_of_getElem? hf)
          clear hf y0 y1
          go_wp2_with fail
          obtain ⟨wp, hwp⟩ : ∃ wo, wo = wr := ⟨_, rfl⟩
          subst hwp
          go_loopw [5] (fun i wr => ∃ k : Nat, k ≤ n ∧ i = .int .i64 k ∧ Hid (∀ g ∈ fs.take k, belB f.1 g.1 = false) ∧ Hid (Below w.heap.size w wr)) (fun i _ => n - (intOf i).toNat)
          case atStart => exact ⟨0, Nat.zero_le _, rfl, fun f hf => by simp at hf, hBr.out⟩
          case round =>
            obtain ⟨j, hj, rfl, hJ, hBq⟩ := hrel
            by_cases hjl : j < n
            · have hjz : (j : Int) < (n : Int) := by omega
              obtain ⟨b1, off1, f1, he1, hbB1, hf1, y0, y1⟩ := (H0.out.below hBq.out hB).fl hil
              cases he1
              obtain rfl : f1 = f := by rw [HF.out] at hf1; exact (Option.some.inj hf1).symm
              obtain ⟨b1, off1, g, he1, hbB2, hg, z0, z1⟩ := (H0.out.below hBq.out hB).fl hjl
              cases he1
              have HG := Lib.hid hg
              have HBE : Hid (∀ q, Calls Tryz.prog 84 #[.string f1.1, .string g.1] (wr.drewN q) fun e w' => e = .returned (.bool (belB f1.1 g.1)) ∧ w' = wr.drewN q) := fun q => (below9_any f1.1 g.1 (wr.drewN q)).mono fun e w' h => ⟨h.1, h.2.symm⟩
              clear hf1 hg y1 z1
              cases hb : belB f1.1 g.1 with
              | true =>
                have HE := Lib.hid (HYE.out f1 HFM.out g (List.mem_of_getElem? HG.out) hb)
                rw [hb] at HBE
                clear hb
                go_wp2_with fail
                go_quiet (first | (go_at_call 84; exact Calls.quiet_of_same (HBE.out _)))
                go_wp2_with fail
                go_ret
                exact ⟨7, rfl, HE.out, below_drewN hBq.out _⟩
              | false =>
                have HN : Hid (∀ g ∈ fs.take (j + 1), belB f1.1 g.1 = false) := fun y hy => by
                  rw [take_snoc HG.out] at hy
                  rcases List.mem_append.1 hy with hy | hy
                  · exact hJ.out y hy
                  · rw [List.mem_singleton.1 hy]; exact hb
                rw [hb] at HBE
                clear hb
                go_wp2_with fail
                go_quiet (first | (go_at_call 84; exact Calls.quiet_of_same (HBE.out _)))
                go_wp2_with fail
                go_roundw
                case rel => exact ⟨j + 1, hjl, by go_num, HN.out, below_drewN hBq.out _⟩
                case measure => simp [intOf]; omega
            · have hjz : ¬ (j : Int) < (n : Int) := by omega
              have HN : Hid (∀ f ∈ fs.take (i + 1), ∀ g ∈ fs, belB f.1 g.1 = false) := fun y hy g hg => by
                rw [take_snoc HF.out] at hy
                rcases List.mem_append.1 hy with hy | hy
                · exact hI.out y hy g hg
                · rw [List.mem_singleton.1 hy]
                  exact hJ.out g (by rw [List.take_of_length_le (by rw [HL.out]; omega)]; exact hg)
              go_wp2_with fail
              go_roundw
              case rel => exact ⟨i + 1, hil, by go_num, HN.out, hBq.out⟩
              case measure => simp [intOf]; omega
        · have hiz : ¬ (i : Int) < (n : Int) := by omega
          have HE : Hid (TckR fs 0) := HNO.out fun f hf => hI.out f (by rw [List.take_of_length_le (by rw [HL.out]; omega)]; exact hf)
          go_wp2_with fail
          go_ret
          exact ⟨0, rfl, HE.out, hBr.out⟩
end Go.Proofs.YtmdhlkkekidknaaGreatDoor

namespace Go.Proofs.YtmdhlkkekidknaaGreatDoor
open Go.RowKit

def slB : ByteArray := ⟨#[47]⟩
noncomputable def vsE (g : Dig → ByteArray → List Fl × Int) (p : List Itm) (pre : ByteArray) : List Ent → List Fl × Int
  | [] => ([], 0)
  | e :: r =>
    if 100 < (pre ++ e.nm).size then ([], 4)
    else if e.dir = true then
      (let s := g e.dg (pre ++ e.nm ++ slB); if s.2 = 0 then (s.1 ++ (vsE g p pre r).1, (vsE g p pre r).2) else s)
    else match getP p e.dg with
      | none => ([], 8)
      | some o => if o.kind = 1 then ((pre ++ e.nm, o.data) :: (vsE g p pre r).1, (vsE g p pre r).2) else ([], 9)
noncomputable def vis (p : List Itm) : Nat → Dig → ByteArray → List Fl × Int
  | 0, _, _ => ([], 4)
  | n + 1, d, pre => match getP p d with
    | none => ([], 8)
    | some o => if o.kind = 2 then (if o.ents = [] ∧ pre ≠ ⟨#[]⟩ then ([], 1) else vsE (vis p n) p pre o.ents) else ([], 9)
theorem vsE_far {g : Dig → ByteArray → List Fl × Int} {p : List Itm} {pre : ByteArray} {e : Ent} {r : List Ent} (h : 100 < (pre ++ e.nm).size) : vsE g p pre (e :: r) = ([], 4) := by rw [vsE, if_pos h]
theorem vsE_dir {g : Dig → ByteArray → List Fl × Int} {p : List Itm} {pre : ByteArray} {e : Ent} {r : List Ent} (h : ¬ 100 < (pre ++ e.nm).size) (hd : e.dir = true) {s : List Fl} (hs : g e.dg (pre ++ e.nm ++ slB) = (s, 0)) :
    vsE g p pre (e :: r) = (s ++ (vsE g p pre r).1, (vsE g p pre r).2) := by rw [vsE, if_neg h, if_pos hd, hs]; rfl
theorem vsE_sub {g : Dig → ByteArray → List Fl × Int} {p : List Itm} {pre : ByteArray} {e : Ent} {r : List Ent} (h : ¬ 100 < (pre ++ e.nm).size) (hd : e.dir = true) {s : List Fl} {z : Int} (hz : z ≠ 0) (hs : g e.dg (pre ++ e.nm ++ slB) = (s, z)) :
    vsE g p pre (e :: r) = (s, z) := by rw [vsE, if_neg h, if_pos hd, hs]; simp only [if_neg hz]
theorem vsE_none {g : Dig → ByteArray → List Fl × Int} {p : List Itm} {pre : ByteArray} {e : Ent} {r : List Ent} (h : ¬ 100 < (pre ++ e.nm).size) (hd : e.dir = false) (hg : getP p e.dg = none) :
    vsE g p pre (e :: r) = ([], 8) := by rw [vsE, if_neg h, if_neg (by rw [hd]; simp), hg]
theorem vsE_kind {g : Dig → ByteArray → List Fl × Int} {p : List Itm} {pre : ByteArray} {e : Ent} {r : List Ent} (h : ¬ 100 < (pre ++ e.nm).size) (hd : e.dir = false) {o : Ob} (hg : getP p e.dg = some o) (hk : o.kind ≠ 1) :
    vsE g p pre (e :: r) = ([], 9) := by rw [vsE, if_neg h, if_neg (by rw [hd]; simp), hg]; simp only [if_neg hk]
theorem vsE_file {g : Dig → ByteArray → List Fl × Int} {p : List Itm} {pre : ByteArray} {e : Ent} {r : List Ent} (h : ¬ 100 < (pre ++ e.nm).size) (hd : e.dir = false) {o : Ob} (hg : getP p e.dg = some o) (hk : o.kind = 1) :
    vsE g p pre (e :: r) = ((pre ++ e.nm, o.data) :: (vsE g p pre r).1, (vsE g p pre r).2) := by rw [vsE, if_neg h, if_neg (by rw [hd]; simp), hg]; simp only [if_pos hk]
def VisAt (g : Dig → ByteArray → List Fl × Int) (p : List Itm) (pre : ByteArray) (es : List Ent) (j : Nat) (fs : List Fl) : Prop := vsE g p pre es = (fs ++ (vsE g p pre (es.drop j)).1, (vsE g p pre (es.drop j)).2)
theorem VisAt.start (g : Dig → ByteArray → List Fl × Int) (p : List Itm) (pre : ByteArray) (es : List Ent) : VisAt g p pre es 0 [] := rfl
theorem drop_at {α : Type} {l : List α} {j : Nat} {x : α} (h : l[j]? = some x) : l.drop j = x :: l.drop (j + 1) := by
  obtain ⟨hl, rfl⟩ := List.getElem?_eq_some_iff.1 h
  exact List.drop_eq_getElem_cons hl
theorem VisAt.done {g : Dig → ByteArray → List Fl × Int} {p : List Itm} {pre : ByteArray} {es : List Ent} {j : Nat} {fs : List Fl} (h : VisAt g p pre es j fs) (hj : es.length ≤ j) : vsE g p pre es = (fs, 0) := by
  unfold VisAt at h; rw [List.drop_of_length_le hj] at h; rw [h]; simp [vsE]
theorem VisAt.fail {g : Dig → ByteArray → List Fl × Int} {p : List Itm} {pre : ByteArray} {es : List Ent} {j : Nat} {fs gs : List Fl} {z : Int} {e : Ent} (h : VisAt g p pre es j fs) (hj : es[j]? = some e) (hz : vsE g p pre (e :: es.drop (j + 1)) = (gs, z)) : vsE g p pre es = (fs ++ gs, z) := by
  unfold VisAt at h; rw [drop_at hj, hz] at h; exact h
theorem VisAt.more {g : Dig → ByteArray → List Fl × Int} {p : List Itm} {pre : ByteArray} {es : List Ent} {j : Nat} {fs gs : List Fl} {e : Ent} (h : VisAt g p pre es j fs) (hj : es[j]? = some e)
    (hz : vsE g p pre (e :: es.drop (j + 1)) = (gs ++ (vsE g p pre (es.drop (j + 1))).1, (vsE g p pre (es.drop (j + 1))).2)) : VisAt g p pre es (j + 1) (fs ++ gs) := by
  unfold VisAt at h ⊢; rw [drop_at hj, hz] at h; rw [h, List.append_assoc]
theorem vis_none {p : List Itm} {n : Nat} {d : Dig} {pre : ByteArray} (h : getP p d = none) : vis p (n + 1) d pre = ([], 8) := by rw [vis, h]
theorem vis_kind {p : List Itm} {n : Nat} {d : Dig} {pre : ByteArray} {o : Ob} (h : getP p d = some o) (hk : o.kind ≠ 2) : vis p (n + 1) d pre = ([], 9) := by rw [vis, h]; simp only [if_neg hk]
theorem vis_empty {p : List Itm} {n : Nat} {d : Dig} {pre : ByteArray} {o : Ob} (h : getP p d = some o) (hk : o.kind = 2) (he : o.ents = []) (hp : pre ≠ ⟨#[]⟩) : vis p (n + 1) d pre = ([], 1) := by rw [vis, h]; simp only [if_pos hk, if_pos (And.intro he hp)]
theorem vis_ents {p : List Itm} {n : Nat} {d : Dig} {pre : ByteArray} {o : Ob} (h : getP p d = some o) (hk : o.kind = 2) (he : ¬ (o.ents = [] ∧ pre ≠ ⟨#[]⟩)) : vis p (n + 1) d pre = vsE (vis p n) p pre o.ents := by rw [vis, h]; simp only [if_pos hk, if_neg he]
noncomputable def visW (p : List Itm) (d : Dig) : List Fl × Int := vis p 102 d ⟨#[]⟩
def AscF (l : List Fl) : Prop := l.Pairwise (fun a b => less a.1 b.1 = true)
structure LdSeq (p : List Itm) (d : Dig) (fs : List Fl) : Prop where
  few : (visW p d).1.length ≤ 200
  ok : (visW p d).2 = 0
  perm : fs.Perm (visW p d).1
  asc : AscF fs
def LodE (p : List Itm) (d : Dig) (err : Int) : Prop := (200 < (visW p d).1.length ∧ err = 4) ∨ ((visW p d).1.length ≤ 200 ∧ (visW p d).2 ≠ 0 ∧ err = (visW p d).2)
theorem AscF.tail {f : Fl} {l : List Fl} (h : AscF (f :: l)) : AscF l := (List.pairwise_cons.1 h).2
theorem AscF.head {f g : Fl} {l : List Fl} (h : AscF (f :: l)) (hg : g ∈ l) : less f.1 g.1 = true := (List.pairwise_cons.1 h).1 g hg
theorem AscF.ext {l m : List Fl} (hl : AscF l) (hm : AscF m) (h : ∀ f, f ∈ l ↔ f ∈ m) : l = m := by
  induction l generalizing m with
  | nil =>
    cases m with
    | nil => rfl
    | cons y q => exact absurd ((h y).2 (by simp)) (by simp)
  | cons x p ih =>
    cases m with
    | nil => exact absurd ((h x).1 (by simp)) (by simp)
    | cons y q =>
      have e : x = y := by
        have h1 := (h x).1 (by simp)
        have h2 := (h y).2 (by simp)
        rcases List.mem_cons.1 h1 with e | h1
        · exact e
        rcases List.mem_cons.1 h2 with e | h2
        · exact e.symm
        exact absurd (lessB_trans (hm.head h1) (hl.head h2)) (by rw [lessB_irrefl]; simp)
      subst e
      rw [ih hl.tail hm.tail]
      intro i
      constructor
      · intro hi
        rcases List.mem_cons.1 ((h i).1 (List.mem_cons_of_mem _ hi)) with rfl | h'
        · exact absurd (hl.head hi) (by rw [lessB_irrefl]; simp)
        · exact h'
      · intro hi
        rcases List.mem_cons.1 ((h i).2 (List.mem_cons_of_mem _ hi)) with rfl | h'
        · exact absurd (hm.head hi) (by rw [lessB_irrefl]; simp)
        · exact h'
theorem LdSeq.uniq {p : List Itm} {d : Dig} {fs gs : List Fl} (h : LdSeq p d fs) (g : LdSeq p d gs) : fs = gs :=
  AscF.ext h.asc g.asc (fun f => by rw [h.perm.mem_iff, g.perm.mem_iff])
end Go.Proofs.YtmdhlkkekidknaaGreatDoor

namespace Go.Proofs.YtmdhlkkekidknaaGreatDoor
open Go.RowKit

theorem bl_app (a b : ByteArray) : bl (a ++ b) = bl a ++ bl b := by
  unfold bl
  rw [ByteArray.data_append, Array.toList_append]
theorem bl_inj {a b : ByteArray} (h : bl a = bl b) : a = b := by rw [← ub_bl a, ← ub_bl b, h]
theorem bl_slB : bl slB = [47] := rfl
def NoSl (s : ByteArray) : Prop := ∀ c ∈ bl s, c ≠ 47
theorem vch_nosl {c : UInt8} (h : vchB c = true) : c ≠ 47 := by
  rintro rfl; revert h; decide
theorem name_nosl {s : ByteArray} (h : nameB s = true) : NoSl s := by
  unfold nameB nameL at h
  simp only [Bool.and_eq_true, List.all_eq_true] at h
  exact fun c hc => vch_nosl (h.2.2.2.2 c hc)
theorem name_len {s : ByteArray} (h : nameB s = true) : 1 ≤ s.size ∧ s.size ≤ 24 := by
  unfold nameB nameL at h
  simp only [Bool.and_eq_true, decide_eq_true_eq] at h
  rw [size_len]; exact ⟨h.1, h.2.1⟩
def Tl (r : List UInt8) : Prop := r = [] ∨ ∃ r', r = 47 :: r'
theorem take_name {n r : List UInt8} (hn : ∀ c ∈ n, c ≠ 47) (hr : Tl r) : (n ++ r).takeWhile (fun c => decide (c ≠ 47)) = n := by
  induction n with
  | nil =>
    rcases hr with rfl | ⟨r', rfl⟩ <;> simp
  | cons c n ih =>
    rw [List.cons_append, List.takeWhile_cons_of_pos (by simp [hn c (by simp)]), ih (fun d hd => hn d (by simp [hd]))]
theorem name_eq {n m : ByteArray} {r t : List UInt8} (hn : NoSl n) (hm : NoSl m) (hr : Tl r) (ht : Tl t) (h : bl n ++ r = bl m ++ t) : n = m ∧ r = t := by
  have h1 := take_name hn hr
  rw [h, take_name hm ht] at h1
  have e := bl_inj h1
  subst e
  exact ⟨rfl, List.append_cancel_left h⟩
def Und (pre : ByteArray) (fs : List Fl) : Prop := ∀ f ∈ fs, ∃ r, bl f.1 = bl pre ++ r
theorem vsE_at {g : Dig → ByteArray → List Fl × Int} {p : List Itm} {pre : ByteArray} (hg : ∀ d q, Und q (g d q).1) : ∀ {es : List Ent} {f : Fl}, f ∈ (vsE g p pre es).1 → ∃ e ∈ es, ∃ r, Tl r ∧ bl f.1 = bl pre ++ (bl e.nm ++ r) := by
  intro es
  induction es with
  | nil => intro f h; cases h
  | cons e es ih =>
    intro f h
    have more : f ∈ (vsE g p pre es).1 → ∃ e' ∈ e :: es, ∃ r, Tl r ∧ bl f.1 = bl pre ++ (bl e'.nm ++ r) := fun h => by
      obtain ⟨e', he, r, h1, h2⟩ := ih h
      exact ⟨e', List.mem_cons_of_mem _ he, r, h1, h2⟩
    have sub : f ∈ (g e.dg (pre ++ e.nm ++ slB)).1 → ∃ e' ∈ e :: es, ∃ r, Tl r ∧ bl f.1 = bl pre ++ (bl e'.nm ++ r) := fun h => by
      obtain ⟨r, hr⟩ := hg _ _ f h
      rw [bl_app, bl_app, bl_slB] at hr
      exact ⟨e, by simp, 47 :: r, .inr ⟨r, rfl⟩, by rw [hr]; simp⟩
    by_cases hf : 100 < (pre ++ e.nm).size
    · rw [vsE_far hf] at h; cases h
    · cases hd : e.dir with
      | true =>
        by_cases hz : (g e.dg (pre ++ e.nm ++ slB)).2 = 0
        · rw [vsE_dir hf hd (s := (g e.dg (pre ++ e.nm ++ slB)).1) (by rw [← hz])] at h
          rcases List.mem_append.1 h with h | h
          · exact sub h
          · exact more h
        · rw [vsE_sub hf hd (s := (g e.dg (pre ++ e.nm ++ slB)).1) hz rfl] at h
          exact sub h
      | false =>
        cases hp : getP p e.dg with
        | none => rw [vsE_none hf hd hp] at h; cases h
        | some o =>
          by_cases hk : o.kind = 1
          · rw [vsE_file hf hd hp hk] at h
            rcases List.mem_cons.1 h with rfl | h
            · exact ⟨e, by simp, [], .inl rfl, by simp [bl_app]⟩
            · exact more h
          · rw [vsE_kind hf hd hp hk] at h; cases h
theorem vis_und (p : List Itm) : ∀ (n : Nat) (d : Dig) (pre : ByteArray), Und pre (vis p n d pre).1 := by
  intro n
  induction n with
  | zero => intro d pre f h; cases h
  | succ n ih =>
    intro d pre f h
    rw [vis] at h
    split at h
    · cases h
    · split at h
      · split at h
        · cases h
        · obtain ⟨e, _, r, _, hr⟩ := vsE_at ih h
          exact ⟨_, hr⟩
      · cases h
theorem asc_names {es : List Ent} (h : OkEs es) : es.Pairwise (fun a b => a.nm ≠ b.nm) := by
  have hp : es.Pairwise (fun a b => less a.nm b.nm = true) := by
    rw [List.pairwise_iff_getElem]
    intro i j hi hj hij
    have key : ∀ k, i + k + 1 < es.length → ∀ b, es[i + k + 1]? = some b → less es[i].nm b.nm = true := by
      intro k
      induction k with
      | zero => intro hk b hb; exact h.asc i _ _ (List.getElem?_eq_getElem hi) hb
      | succ k ih =>
        intro hk b hb
        have h1 := ih (by omega) _ (List.getElem?_eq_getElem (by omega))
        exact lessB_trans h1 (h.asc (i + k + 1) _ _ (List.getElem?_eq_getElem (by omega)) (by rw [show i + k + 1 + 1 = i + (k + 1) + 1 by omega]; exact hb))
    exact key (j - i - 1) (by omega) _ (by rw [show i + (j - i - 1) + 1 = j by omega]; exact List.getElem?_eq_getElem hj)
  exact hp.imp (fun h => lessB_ne h)
theorem vsE_nodup {g : Dig → ByteArray → List Fl × Int} {p : List Itm} {pre : ByteArray} (hg : ∀ d q, Und q (g d q).1) (hn : ∀ d q, ((g d q).1.map Prod.fst).Nodup) :
    ∀ {es : List Ent}, es.Pairwise (fun a b => a.nm ≠ b.nm) → (∀ e ∈ es, NoSl e.nm) → ((vsE g p pre es).1.map Prod.fst).Nodup := by
  intro es
  induction es with
  | nil => intro _ _; exact List.nodup_nil
  | cons e es ih =>
    intro ha hs
    have ha' := List.pairwise_cons.1 ha
    have ih' := ih ha'.2 (fun e' he => hs e' (by simp [he]))
    have far : ∀ f ∈ (vsE g p pre es).1, ∀ r, Tl r → bl f.1 ≠ bl pre ++ (bl e.nm ++ r) := fun f hf r hr he => by
      obtain ⟨e', he', r', hr', h2⟩ := vsE_at hg hf
      rw [h2] at he
      have := (name_eq (hs e' (by simp [he'])) (hs e (by simp)) hr' hr (List.append_cancel_left he)).1
      exact ha'.1 e' he' this.symm
    by_cases hf : 100 < (pre ++ e.nm).size
    · rw [vsE_far hf]; exact List.nodup_nil
    · cases hd : e.dir with
      | true =>
        by_cases hz : (g e.dg (pre ++ e.nm ++ slB)).2 = 0
        · rw [vsE_dir hf hd (s := (g e.dg (pre ++ e.nm ++ slB)).1) (by rw [← hz]), List.map_append, List.nodup_append]
          refine ⟨hn _ _, ih', ?_⟩
          intro a ha b hb hab
          obtain ⟨f, hf1, rfl⟩ := List.mem_map.1 ha
          obtain ⟨f', hf2, rfl⟩ := List.mem_map.1 hb
          obtain ⟨r, hr⟩ := hg _ _ f hf1
          rw [bl_app, bl_app, bl_slB] at hr
          refine far f' hf2 (47 :: r) (.inr ⟨r, rfl⟩) ?_
          rw [← hab, hr]; simp
        · rw [vsE_sub hf hd (s := (g e.dg (pre ++ e.nm ++ slB)).1) hz rfl]
          exact hn _ _
      | false =>
        cases hp : getP p e.dg with
        | none => rw [vsE_none hf hd hp]; exact List.nodup_nil
        | some o =>
          by_cases hk : o.kind = 1
          · rw [vsE_file hf hd hp hk, List.map_cons, List.nodup_cons]
            refine ⟨fun hm => ?_, ih'⟩
            obtain ⟨f, hf1, he⟩ := List.mem_map.1 hm
            exact far f hf1 [] (.inl rfl) (by rw [he]; simp [bl_app])
          · rw [vsE_kind hf hd hp hk]; exact List.nodup_nil
theorem okO_tree {o : Ob} (h : OkO o) (hk : o.kind = 2) : OkEs o.ents := by
  cases h.f with
  | blob k _ _ _ => rcases k with k | k <;> omega
  | tree _ _ _ e => exact e
  | commit k _ _ _ => omega
theorem vis_nodup {p : List Itm} (h : PlOk p) : ∀ (n : Nat) (d : Dig) (pre : ByteArray), ((vis p n d pre).1.map Prod.fst).Nodup := by
  intro n
  induction n with
  | zero => intro d pre; exact List.nodup_nil
  | succ n ih =>
    intro d pre
    rw [vis]
    split
    · exact List.nodup_nil
    · rename_i o ho
      split
      · rename_i hk
        split
        · exact List.nodup_nil
        · have hes := okO_tree (getP_ok h ho) hk
          exact vsE_nodup (vis_und p n) ih (asc_names hes) (fun e he => name_nosl (hes.all e he).nm)
      · exact List.nodup_nil
end Go.Proofs.YtmdhlkkekidknaaGreatDoor

namespace Go.Proofs.YtmdhlkkekidknaaGreatDoor
open Go.RowKit

def withF (l : List Fl) (f : Fl) : List Fl := l.filter (fun g => less g.1 f.1) ++ f :: l.filter (fun g => less f.1 g.1)
def wotF (l : List Fl) (s : ByteArray) : List Fl := l.filter (fun g => !decide (g.1 = s))
theorem mem_withF {l : List Fl} {f g : Fl} : g ∈ withF l f ↔ (g ∈ l ∧ g.1 ≠ f.1) ∨ g = f := by
  unfold withF
  rw [List.mem_append, List.mem_cons, List.mem_filter, List.mem_filter]
  constructor
  · rintro (⟨h1, h2⟩ | h | ⟨h1, h2⟩)
    · exact .inl ⟨h1, lessB_ne h2⟩
    · exact .inr h
    · exact .inl ⟨h1, fun e => lessB_ne h2 e.symm⟩
  · rintro (⟨h1, h2⟩ | h)
    · cases h3 : less g.1 f.1 with
      | true => exact .inl ⟨h1, rfl⟩
      | false =>
        cases h4 : less f.1 g.1 with
        | true => exact .inr (.inr ⟨h1, rfl⟩)
        | false => exact absurd (lessB_conn h3 h4) h2
    · exact .inr (.inl h)
theorem asc_withF {l : List Fl} (h : AscF l) (f : Fl) : AscF (withF l f) := by
  unfold withF AscF
  rw [List.pairwise_append]
  refine ⟨h.filter _, ?_, ?_⟩
  · rw [List.pairwise_cons]
    exact ⟨fun g hg => (List.mem_filter.1 hg).2, h.filter _⟩
  · intro a ha b hb
    have h1 := (List.mem_filter.1 ha).2
    rcases List.mem_cons.1 hb with rfl | hb
    · exact h1
    · exact lessB_trans h1 (List.mem_filter.1 hb).2
theorem asc_nodup {l : List Fl} (h : AscF l) : (l.map Prod.fst).Nodup := by
  unfold List.Nodup
  rw [List.pairwise_map]
  exact List.Pairwise.imp (fun h => lessB_ne h) h
theorem asc_wotF {l : List Fl} (h : AscF l) (s : ByteArray) : AscF (wotF l s) := List.Pairwise.filter _ h
theorem mem_wotF {l : List Fl} {s : ByteArray} {g : Fl} : g ∈ wotF l s ↔ g ∈ l ∧ g.1 ≠ s := by
  unfold wotF; rw [List.mem_filter]; simp
theorem wotF_len (l : List Fl) (s : ByteArray) : (wotF l s).length ≤ l.length := List.length_filter_le _ _
theorem filter_two (l : List Fl) {a b : Fl → Bool} (h : ∀ g, a g = true → b g = false) : (l.filter a).length + (l.filter b).length ≤ l.length := by
  induction l with
  | nil => simp
  | cons g l ih =>
    rw [List.filter_cons, List.filter_cons]
    cases ha : a g with
    | true => rw [h g ha]; simp; omega
    | false => cases b g <;> simp <;> omega
theorem withF_len (l : List Fl) (f : Fl) : (withF l f).length ≤ l.length + 1 := by
  unfold withF
  have := filter_two l (a := fun g => less g.1 f.1) (b := fun g => less f.1 g.1) (fun g h => lessB_asymm h)
  rw [List.length_append, List.length_cons]; omega
def WithAt (l : List Fl) (f : Fl) (i : Nat) (put : Bool) (out : List Fl) : Prop :=
  (put = false ∧ out = l.take i ∧ ∀ g ∈ l.take i, less g.1 f.1 = true) ∨ (put = true ∧ out = (l.take i).filter (fun g => less g.1 f.1) ++ f :: (l.take i).filter (fun g => less f.1 g.1) ∧ ∀ g ∈ l.drop i, less g.1 f.1 = false)
theorem WithAt.start (l : List Fl) (f : Fl) : WithAt l f 0 false [] := .inl ⟨rfl, rfl, fun g h => by cases h⟩
section
variable {l out : List Fl} {f g : Fl} {i : Nat} {put : Bool}
theorem WithAt.low (h : WithAt l f i false out) (hg : l[i]? = some g) (hl : less g.1 f.1 = true) : WithAt l f (i + 1) false (out ++ [g]) := by
  rcases h with ⟨_, rfl, h3⟩ | ⟨h, _⟩
  · refine .inl ⟨rfl, (take_snoc hg).symm, fun x hx => ?_⟩
    rw [take_snoc hg] at hx
    rcases List.mem_append.1 hx with hx | hx
    · exact h3 x hx
    · rw [List.mem_singleton.1 hx]; exact hl
  · cases h
theorem filter_all {α : Type} {p : α → Bool} {l : List α} (h : ∀ x ∈ l, p x = true) : l.filter p = l := List.filter_eq_self.2 h
theorem filter_none {α : Type} {p : α → Bool} {l : List α} (h : ∀ x ∈ l, p x = false) : l.filter p = [] := List.filter_eq_nil_iff.2 (fun x hx => by rw [h x hx]; simp)
theorem WithAt.put_ (ha : AscF l) (h : WithAt l f i false out) (hg : l[i]? = some g) (hl : less g.1 f.1 = false) : out ++ [f] = (l.take i).filter (fun g => less g.1 f.1) ++ f :: (l.take i).filter (fun g => less f.1 g.1) ∧ ∀ x ∈ l.drop i, less x.1 f.1 = false := by
  rcases h with ⟨_, rfl, h3⟩ | ⟨h, _⟩
  · refine ⟨?_, fun x hx => ?_⟩
    · rw [filter_all h3, filter_none (fun x hx => lessB_asymm (h3 x hx))]
    · rw [drop_at hg] at hx
      rcases List.mem_cons.1 hx with rfl | hx
      · exact hl
      · cases hb : less x.1 f.1 with
        | false => rfl
        | true =>
          have h4 : AscF (l.drop i) := List.Pairwise.sublist (List.drop_sublist _ _) ha
          rw [drop_at hg] at h4
          have := lessB_trans (h4.head hx) hb
          rw [hl] at this; cases this
  · cases h
theorem WithAt.same_ (ho : out = (l.take i).filter (fun g => less g.1 f.1) ++ f :: (l.take i).filter (fun g => less f.1 g.1)) (hd : ∀ x ∈ l.drop i, less x.1 f.1 = false) (hg : l[i]? = some g) (he : g.1 = f.1) : WithAt l f (i + 1) true out := by
  have h0 : less g.1 f.1 = false := by rw [he]; exact lessB_irrefl _
  have h1 : less f.1 g.1 = false := by rw [he]; exact lessB_irrefl _
  refine .inr ⟨rfl, ?_, fun x hx => hd x (by rw [drop_at hg]; exact List.mem_cons_of_mem _ hx)⟩
  rw [take_snoc hg, List.filter_append, List.filter_append, ho]
  simp [h0, h1]
theorem WithAt.high (ho : out = (l.take i).filter (fun g => less g.1 f.1) ++ f :: (l.take i).filter (fun g => less f.1 g.1)) (hd : ∀ x ∈ l.drop i, less x.1 f.1 = false) (hg : l[i]? = some g) (he : g.1 ≠ f.1) : WithAt l f (i + 1) true (out ++ [g]) := by
  have h0 : less g.1 f.1 = false := hd g (by rw [drop_at hg]; simp)
  have h1 : less f.1 g.1 = true := by
    cases h1 : less f.1 g.1 with
    | true => rfl
    | false => exact absurd (lessB_conn h0 h1) he
  refine .inr ⟨rfl, ?_, fun x hx => hd x (by rw [drop_at hg]; exact List.mem_cons_of_mem _ hx)⟩
  rw [take_snoc hg, List.filter_append, List.filter_append, ho]
  simp [h0, h1]
theorem WithAt.of_true (h : WithAt l f i true out) : out = (l.take i).filter (fun g => less g.1 f.1) ++ f :: (l.take i).filter (fun g => less f.1 g.1) ∧ ∀ x ∈ l.drop i, less x.1 f.1 = false := by
  rcases h with ⟨h, _⟩ | ⟨_, h⟩
  · cases h
  · exact h
theorem WithAt.done_true (h : WithAt l f i true out) (hi : l.length ≤ i) : out = withF l f := by
  have := h.of_true.1
  rw [List.take_of_length_le hi] at this; exact this
theorem WithAt.done_false (h : WithAt l f i false out) (hi : l.length ≤ i) : out ++ [f] = withF l f := by
  rcases h with ⟨_, h1, h3⟩ | ⟨h, _⟩
  · rw [List.take_of_length_le hi] at h1 h3
    unfold withF
    rw [filter_all h3, filter_none (fun x hx => lessB_asymm (h3 x hx)), h1]
  · cases h
theorem WithAt.len (h : WithAt l f i put out) : out.length ≤ i + 1 := by
  rcases h with ⟨_, rfl, _⟩ | ⟨_, rfl, _⟩
  · rw [List.length_take]; omega
  · have := filter_two (l.take i) (a := fun g => less g.1 f.1) (b := fun g => less f.1 g.1) (fun g h => lessB_asymm h)
    rw [List.length_take] at this
    rw [List.length_append, List.length_cons]; omega
end
section
variable {g : Dig → ByteArray → List Fl × Int} {p : List Itm} {pre : ByteArray} {es : List Ent} {l fs m : List Fl} {j : Nat} {e : Ent}
end
end Go.Proofs.YtmdhlkkekidknaaGreatDoor
