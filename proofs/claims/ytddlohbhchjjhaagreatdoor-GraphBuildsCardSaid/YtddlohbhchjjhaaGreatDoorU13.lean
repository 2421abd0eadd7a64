/-
  Lemmas: cordwoodref01.put, PutInt and PutText. The reference's check of a blob. The reference's Check of files. The reference's reading of rules, in plain Lean: it reads what the program's reader reads. Printed rules can be read: the words of a text made of words, and the rules of such words; in plain Lean. DERIVED: THE SHELF's CONTRACTS AT THIS DUMP, IN PLAIN WORDS (tools/lay-plain.mjs out of 'TryzJn.lean', which tools/lay-shelf.mjs wrote): THE SAME DECLARATIONS UNDER THE SAME NAMES: 'import', 'namespace', 'open', 'def', 'theorem' AND NOTHING ELSE: no command of the shelf's: FOR A HAND-IN. Each laying: the table of numbers ('.._ren') and one theorem, a field a fact of the dump's own or the kernel's comparison; each contract: ONE APPLICATION. strings.Join at this program. What is printed for rules: how long it is, and its lines; in plain Lean. An append at a step of a region that draws its order. buildfile.Print. The build files that are printed for the targets of a valid graph are loaded as this graph; in plain Lean. buildfile.Split at a label. DERIVED: THE SHELF's CONTRACTS AT THIS DUMP, IN PLAIN WORDS (tools/lay-plain.mjs out of 'TryzSff.lean', which tools/lay-shelf.mjs wrote): THE SAME DECLARATIONS UNDER THE SAME NAMES: 'import', 'namespace', 'open', 'def', 'theorem' AND NOTHING ELSE: no command of the shelf's: FOR A HAND-IN. Each laying: the table of numbers ('.._ren') and one theorem, a field a fact of the dump's own or the kernel's comparison; each contract: ONE APPLICATION.
-/
import Derived.Shelf.Strings.OnBuilder
import Derived.Ground.NamesProg
import Derived.Test.YtddlohbhchjjhaaGreatDoorProg
import Derived.Deep.CutRange
import Derived.Deep.RegionHeld3
import Derived.Deep.QuietTactic
import Derived.BigQuiet
import Derived.Shelf.SlSortCmp.WholeK
import Derived.Shelf.SlSortCmp.NoneTotal
import Derived.Ground.SlsfProg
import Derived.Test.YtddlohbhchjjhaaGreatDoorU12

namespace Go.Proofs.YtddlohbhchjjhaaGreatDoor
open Go.RowKit

theorem ofL_append (a b : Bytes) : ofL a ++ ofL b = ofL (a ++ b) := by
  apply ByteArray.ext
  simp [ofL]
theorem rp_list9 {vs : List Value} (h : vs.length = 9) : ∃ v0 v1 v2 v3 v4 v5 v6 v7 v8, vs = [v0, v1, v2, v3, v4, v5, v6, v7, v8] := by
  match vs, h with
  | [v0, v1, v2, v3, v4, v5, v6, v7, v8], _ => exact ⟨v0, v1, v2, v3, v4, v5, v6, v7, v8, rfl⟩
def putPhi (n : Nat) (i : Nat) (v : Value) (w : World) : Prop :=
  match i with
  | 0 => v = .int .i64 n
  | 1 => v = .int .i64 ((n : Int) % 128)
  | 2 => v = .int .i64 (128 + (n : Int) % 128)
  | 3 => v = .int .u8 (128 + (n : Int) % 128)
  | 4 => ∃ g, v = .slice (some ⟨g, 0, none⟩) 1 1 ∧ g < w.heap.size ∧ w.cell? ⟨g, 0, none⟩ = some (.int .u8 (128 + (n : Int) % 128))
  | 5 => v = .string (ofL [UInt8.ofNat (n % 128 + 128)])
  | 6 => v = .int .i64 n
  | 7 => v = .int .i64 ((n : Int) / 128)
  | _ => v = .string (ofL (encN (n / 128)))
theorem putPhi_keep (n : Nat) (i : Nat) (v : Value) (w w' : World) (h : putPhi n i v w) (hb : Below w.heap.size w w') : putPhi n i v w' := by
  match i with
  | 0 => exact h
  | 1 => exact h
  | 2 => exact h
  | 3 => exact h
  | 4 =>
    obtain ⟨g, e, hg, hc⟩ := h
    exact ⟨g, e, Nat.lt_of_lt_of_le hg hb.size, (hb.cell (p := ⟨g, 0, none⟩) hg).trans hc⟩
  | 5 => exact h
  | 6 => exact h
  | 7 => exact h
  | _ + 8 => exact h

set_option maxRecDepth 100000 in
set_option maxHeartbeats 2000000 in
theorem put_any (n : Nat) : n ≤ 9223372036854775807 → ∀ w : World, Calls Tryz.prog 237 #[.int .i64 n] w fun e w' => e = .returned (.string (ofL (encN n))) ∧ Below w.heap.size w w' := by
  induction n using Nat.strongRecOn with
  | _ n ih =>
  intro hn w
  have IH := Lib.hid ih; clear ih
  by_cases hs : n < 128
  · have hsi : (n : Int) < 128 := by omega
    have HE := Lib.hid (encN_small hs)
    have hconv := run_convert_bytes_back (P := Tryz.prog) (w.alloc (.cells #[.int .u8 n] 5)) 106 9 5 ⟨w.heap.size, 0, none⟩ 1 [UInt8.ofNat n] Tryz.underlying106 Tryz.underlying5 Tryz.underlying9 (by
      intro j hj
      simp at hj; subst hj
      simp [Addr.add, toNat_ofNat8 (n := n) (by omega)])
    simp only [List.length_cons, List.length_nil, Nat.zero_add] at hconv
    go_enter Tryz.func237, Tryz.ntmps237
    go_wp2
    go_ret
    exact ⟨by rw [HE.out]; rfl, (Below.refl _ _).alloc (Nat.le_refl _) _⟩
  · have hsi : ¬ (n : Int) < 128 := by omega
    have HE := Lib.hid (encN_big hs)
    go_enter Tryz.func237, Tryz.ntmps237
    go_wp2_with fail
    refine wp_region_stableD 9 [9, 10, 11, 12, 13, 14, 15, 16, 17] (by kernel_rfl) (by kernel_rfl) (by kernel_rfl) (fun W => Below w.heap.size w W) (fun W W' => Below W.heap.size W W')
      (putPhi n) (fun W W' h1 h2 => h1.trans (h2.mono h1.size)) (putPhi_keep n) (Below.refl _ _).drew ?step ?tail
    case step =>
      intro i o vs W hi ho hv hR hphi
      obtain ⟨v0, v1, v2, v3, v4, v5, v6, v7, v8, rfl⟩ := rp_list9 hv
      simp only [List.zip, List.zipWith, putAll, Act.put, List.setIfInBounds_toArray, List.set]
      have h0 : (0 : Int) ≤ (n : Int) := by omega
      match i, hi, ho with
      | 0, _, rfl => exact gives_value (w' := W) (by go_simp) ⟨Below.refl _ _, rfl⟩
      | 1, _, rfl =>
        have e0 : v0 = _ := hphi ⟨0, .data⟩ (by simp) rfl v0 rfl
        subst e0
        exact gives_value (v := .int .i64 ((n : Int) % 128)) (w' := W) (by go_simp; exact Int.tmod_eq_emod_of_nonneg h0) ⟨Below.refl _ _, rfl⟩
      | 2, _, rfl =>
        have e0 : v1 = _ := hphi ⟨1, .data⟩ (by simp) rfl v1 rfl
        subst e0
        exact gives_value (v := .int .i64 (128 + (n : Int) % 128)) (w' := W) (by go_simp; exact IntWalk.i64_in _ (by omega)) ⟨Below.refl _ _, rfl⟩
      | 3, _, rfl =>
        have e0 : v2 = _ := hphi ⟨2, .data⟩ (by simp) rfl v2 rfl
        subst e0
        exact gives_value (v := .int .u8 (128 + (n : Int) % 128)) (w' := W) (by go_simp; exact IntWalk.u8_in _ (by omega)) ⟨Below.refl _ _, rfl⟩
      | 4, _, rfl =>
        have e0 : v3 = _ := hphi ⟨3, .data⟩ (by simp) rfl v3 rfl
        subst e0
        exact gives_value (v := .slice (some ⟨W.heap.size, 0, none⟩) 1 1) (w' := W.alloc (.cells #[.int .u8 (128 + (n : Int) % 128)] 5)) (by go_simp) ⟨(Below.refl _ _).alloc (Nat.le_refl _) _, W.heap.size, rfl, by simp, by simp⟩
      | 5, _, rfl =>
        obtain ⟨g, e0, hg, hc⟩ : ∃ g, v4 = .slice (some ⟨g, 0, none⟩) 1 1 ∧ g < W.heap.size ∧ W.cell? ⟨g, 0, none⟩ = some (.int .u8 (128 + (n : Int) % 128)) := hphi ⟨4, .data⟩ (by simp) rfl v4 rfl
        subst e0
        have hconv := run_convert_bytes_back (P := Tryz.prog) W 106 9 5 ⟨g, 0, none⟩ 1 [UInt8.ofNat (n % 128 + 128)] Tryz.underlying106 Tryz.underlying5 Tryz.underlying9 (by
          intro j hj
          simp at hj; subst hj
          simp only [Addr.add, if_true, List.getElem_cons_zero, toNat_ofNat8 (n := n % 128 + 128) (by omega)]
          rw [hc]; congr 2; omega)
        simp only [List.length_cons, List.length_nil, Nat.zero_add] at hconv
        exact gives_value (v := .string (ofL [UInt8.ofNat (n % 128 + 128)])) (w' := W) (by go_simp; rfl) ⟨Below.refl _ _, rfl⟩
      | 6, _, rfl => exact gives_value (w' := W) (by go_simp) ⟨Below.refl _ _, rfl⟩
      | 7, _, rfl =>
        have e0 : v6 = _ := hphi ⟨6, .data⟩ (by simp) rfl v6 rfl
        subst e0
        exact gives_value (v := .int .i64 ((n : Int) / 128)) (w' := W) (by go_simp; exact IntWalk.i64_in _ (by omega)) ⟨Below.refl _ _, rfl⟩
      | 8, _, rfl =>
        have e0 : v7 = _ := hphi ⟨7, .data⟩ (by simp) rfl v7 rfl
        subst e0
        refine gives_call (f := 237) (args := #[.int .i64 ((n / 128 : Nat) : Int)]) (by go_simp) ((IH.out (n / 128) (by omega) (by omega) W).mono ?_)
        rintro e W' ⟨rfl, hb⟩
        exact ⟨_, rfl, hb, rfl⟩
    case tail =>
      intro vs W hv hR hphi
      obtain ⟨v0, v1, v2, v3, v4, v5, v6, v7, v8, rfl⟩ := rp_list9 hv
      simp only [List.zip, List.zipWith, putAll, Act.put, List.setIfInBounds_toArray, List.set, List.drop]
      have e5 : v5 = .string (ofL [UInt8.ofNat (n % 128 + 128)]) := hphi 5 v5 rfl
      have e8 : v8 = .string (ofL (encN (n / 128))) := hphi 8 v8 rfl
      subst e5 e8
      have HR := Lib.hid hR
      clear hphi hR
      have hl1 : (ofL [UInt8.ofNat (n % 128 + 128)]).size = 1 := rfl
      have hl2 : (ofL (encN (n / 128))).size ≤ 10 := by rw [size_ofL]; exact encN_len 9 _ (by omega)
      have HF : Hid (ofL [UInt8.ofNat (n % 128 + 128)] ++ ofL (encN (n / 128)) = ofL (encN n)) := by
        show _ = _
        rw [ofL_append, HE.out]; rfl
      generalize ofL [UInt8.ofNat (n % 128 + 128)] = p at *
      generalize ofL (encN (n / 128)) = q at *
      have hsum : p.size + q.size ≤ 9223372036854775807 := by omega
      clear hl1 hl2
      go_wp2
      go_ret
      exact ⟨by rw [HF.out]; rfl, HR.out⟩

set_option maxHeartbeats 1000000 in
theorem refPutInt_any (n : Nat) (hn : n ≤ 1099511627776) (w : World) :
    Calls Tryz.prog 221 #[.int .i64 n] w fun e w' => e = .returned (.tuple #[.string (ofL (encN n)), .int .i64 0]) ∧ Below w.heap.size w w' := by
  have h0 : ¬ (n : Int) < 0 := by omega
  have h1 : ¬ (1099511627776 : Int) < (n : Int) := by omega
  go_enter Tryz.func221, Tryz.ntmps221
  go_wp2_with fail
  refine (put_any n (by omega) _).mono ?_
  rintro e w1 ⟨rfl, hb1⟩
  have HB1 := Lib.hid hb1; clear hb1
  go_wp2_with fail
  go_ret2
  exact ⟨rfl, HB1.out⟩

set_option maxHeartbeats 1000000 in
theorem refPutText_any (s : ByteArray) (hs : s.size ≤ 65536) (w : World) :
    Calls Tryz.prog 222 #[.string s] w fun e w' => e = .returned (.tuple #[.string (ofL (encT (toL s))), .int .i64 0]) ∧ Below w.heap.size w w' := by
  have hsi : ¬ (65536 : Int) < (s.size : Int) := by omega
  go_enter Tryz.func222, Tryz.ntmps222
  go_wp2_with fail
  refine (put_any s.size (by omega) _).mono ?_
  rintro e w1 ⟨rfl, hb1⟩
  have HB1 := Lib.hid hb1; clear hb1
  have hl2 : (ofL (encN s.size)).size ≤ 6 := by rw [size_ofL]; exact encN_len 5 _ (by omega)
  have HF : Hid (ofL (encN s.size) ++ s = ofL (encT (toL s))) := by
    show _ = _
    unfold encT
    rw [← size_toL, ← ofL_append, ofL_toL]
  generalize ofL (encN s.size) = q at *
  have hsum : q.size + s.size ≤ 9223372036854775807 := by omega
  go_wp2_with fail
  go_ret2
  exact ⟨by rw [HF.out]; rfl, HB1.out⟩
end Go.Proofs.YtddlohbhchjjhaaGreatDoor

namespace Go.Proofs.YtddlohbhchjjhaaGreatDoor
open Go.RowKit Go.Shelf

set_option maxHeartbeats 1000000 in
theorem num7_any (n : Nat) (hn : n ≤ 1099511627776) (w : World) : Calls Tryz.prog 178 #[.int .i64 n] w fun e w' => e = .returned (.string (ofL (encN n))) ∧ Below w.heap.size w w' := by
  go_enter Tryz.func178, Tryz.ntmps178
  go_wp2_with fail
  refine (refPutInt_any n hn w).mono ?_
  rintro e w1 ⟨rfl, hb1⟩
  go_wp2_with fail
  go_ret
  exact ⟨rfl, hb1⟩
set_option maxHeartbeats 1000000 in
theorem txt7_any (s : ByteArray) (hs : s.size ≤ 65536) (w : World) : Calls Tryz.prog 179 #[.string s] w fun e w' => e = .returned (.string (ofL (encT (toL s)))) ∧ Below w.heap.size w w' := by
  go_enter Tryz.func179, Tryz.ntmps179
  go_wp2_with fail
  refine (refPutText_any s hs w).mono ?_
  rintro e w1 ⟨rfl, hb1⟩
  go_wp2_with fail
  go_ret
  exact ⟨rfl, hb1⟩
set_option maxHeartbeats 1000000 in
theorem zero7_any (w : World) : Calls Tryz.prog 220 #[.agg #[.int .u64 0, .int .u64 0]] w fun e w' => e = .returned (.bool true) ∧ Below w.heap.size w w' := by
  go_enter Tryz.func220, Tryz.ntmps220
  go_wp2
  all_goals (go_ret; exact ⟨rfl, (Below.refl _ w).alloc (Nat.le_refl _) _⟩)
set_option maxRecDepth 100000 in
set_option maxHeartbeats 2000000 in
theorem only7_any (d : ByteArray) (w : World) : Calls Tryz.prog 175 #[.agg (blobC d)] w fun e w' => e = .returned (.bool true) ∧ Below w.heap.size w w' := by
  unfold blobC
  obtain ⟨W0, hW0⟩ : ∃ W0, w.alloc (.cells #[.int .i64 1, .string d, .slice none 0 0, .int .u64 0, .int .u64 0, .slice none 0 0, .string ⟨#[]⟩, .int .i64 0, .string ⟨#[]⟩] 125) = W0 := ⟨_, rfl⟩
  have HB0 : Hid (Below w.heap.size w W0) := by rw [← hW0]; exact (Below.refl _ w).alloc (Nat.le_refl _) _
  have HK0 : Hid (Bk W0 w.heap.size 125 #[.int .i64 1, .string d, .slice none 0 0, .int .u64 0, .int .u64 0, .slice none 0 0, .string ⟨#[]⟩, .int .i64 0, .string ⟨#[]⟩]) := by rw [← hW0]; exact Bk.new w _ _
  have zW0 : W0.heap.size = w.heap.size + 1 := by rw [← hW0]; simp
  have c0 := HK0.out.cell 0; have c1 := HK0.out.cell 1; have c2 := HK0.out.cell 2; have c3 := HK0.out.cell 3; have c4 := HK0.out.cell 4; have c5 := HK0.out.cell 5; have c6 := HK0.out.cell 6; have c7 := HK0.out.cell 7; have c8 := HK0.out.cell 8
  simp at c0 c1 c2 c3 c4 c5 c6 c7 c8
  go_enter Tryz.func175, Tryz.ntmps175
  go_wp2_with fail
  refine (zero7_any W0).mono ?_
  rintro e w1 ⟨rfl, hb1⟩
  have HB1 : Hid (Below w.heap.size w w1) := HB0.out.trans (hb1.mono (by omega))
  have HK1 := Lib.hid (HK0.out.below hb1 (by omega))
  clear hb1 hW0 c0 c1 c2 c3 c4 c5 c6 c7 c8
  have c0 := HK1.out.cell 0; have c1 := HK1.out.cell 1; have c2 := HK1.out.cell 2; have c5 := HK1.out.cell 5; have c6 := HK1.out.cell 6; have c7 := HK1.out.cell 7; have c8 := HK1.out.cell 8
  simp at c0 c1 c2 c5 c6 c7 c8
  go_wp2_with fail
  go_ret
  exact ⟨rfl, HB1.out⟩
set_option maxRecDepth 100000 in
set_option maxHeartbeats 2000000 in
theorem fields7_any (d : ByteArray) (w : World) (hd : d.size ≤ 60000) : Calls Tryz.prog 131 #[.agg (blobC d)] w fun e w' => e = .returned (.int .i64 0) ∧ Below w.heap.size w w' := by
  have HO := fun w => Lib.hid (only7_any d w)
  unfold blobC at HO ⊢
  obtain ⟨W0, hW0⟩ : ∃ W0, w.alloc (.cells #[.int .i64 1, .string d, .slice none 0 0, .int .u64 0, .int .u64 0, .slice none 0 0, .string ⟨#[]⟩, .int .i64 0, .string ⟨#[]⟩] 125) = W0 := ⟨_, rfl⟩
  have HB0 : Hid (Below w.heap.size w W0) := by rw [← hW0]; exact (Below.refl _ w).alloc (Nat.le_refl _) _
  have HK0 : Hid (Bk W0 w.heap.size 125 #[.int .i64 1, .string d, .slice none 0 0, .int .u64 0, .int .u64 0, .slice none 0 0, .string ⟨#[]⟩, .int .i64 0, .string ⟨#[]⟩]) := by rw [← hW0]; exact Bk.new w _ _
  have zW0 : W0.heap.size = w.heap.size + 1 := by rw [← hW0]; simp
  have HO0 := HO W0
  have hdz : ¬ (65536 : Int) < (d.size : Int) := by omega
  have c0 := HK0.out.cell 0; have c1 := HK0.out.cell 1; have c2 := HK0.out.cell 2; have c3 := HK0.out.cell 3; have c4 := HK0.out.cell 4; have c5 := HK0.out.cell 5; have c6 := HK0.out.cell 6; have c7 := HK0.out.cell 7; have c8 := HK0.out.cell 8
  simp at c0 c1 c2 c3 c4 c5 c6 c7 c8
  clear HO
  go_enter Tryz.func131, Tryz.ntmps131
  go_wp2_with fail
  refine HO0.out.mono ?_
  rintro e w1 ⟨rfl, hb1⟩
  have HB1 : Hid (Below w.heap.size w w1) := HB0.out.trans (hb1.mono (by omega))
  have HK1 := Lib.hid (HK0.out.below hb1 (by omega))
  clear hb1 hW0 c0 c1 c2 c3 c4 c5 c6 c7 c8 HO0
  have c0 := HK1.out.cell 0; have c1 := HK1.out.cell 1
  simp at c0 c1
  go_wp2_with fail
  go_ret
  exact ⟨rfl, HB1.out⟩
set_option maxRecDepth 100000 in
set_option maxHeartbeats 2000000 in
theorem enc7_any (d : ByteArray) (w : World) (hd : d.size ≤ 60000) : Calls Tryz.prog 132 #[.agg (blobC d)] w fun e w' => (∃ s : ByteArray, e = .returned (.string s) ∧ s.size ≤ 60007) ∧ Below w.heap.size w w' := by
  have hle : (encT (toL d)).length ≤ 60006 := by
    have h1 := encN_len 5 d.size (by omega)
    have hsd := size_toL d
    unfold encT; rw [List.length_append, ← hsd]; omega
  have hl1 : (encN 1).length = 1 := by rw [encN_small (by omega)]; rfl
  unfold blobC
  obtain ⟨W0, hW0⟩ : ∃ W0, w.alloc (.cells #[.int .i64 1, .string d, .slice none 0 0, .int .u64 0, .int .u64 0, .slice none 0 0, .string ⟨#[]⟩, .int .i64 0, .string ⟨#[]⟩] 125) = W0 := ⟨_, rfl⟩
  have HB0 : Hid (Below w.heap.size w W0) := by rw [← hW0]; exact (Below.refl _ w).alloc (Nat.le_refl _) _
  have HK0 : Hid (Bk W0 w.heap.size 125 #[.int .i64 1, .string d, .slice none 0 0, .int .u64 0, .int .u64 0, .slice none 0 0, .string ⟨#[]⟩, .int .i64 0, .string ⟨#[]⟩]) := by rw [← hW0]; exact Bk.new w _ _
  have zW0 : W0.heap.size = w.heap.size + 1 := by rw [← hW0]; simp
  have c0 := HK0.out.cell 0; have c1 := HK0.out.cell 1
  simp at c0 c1
  have HN := Lib.hid (num7_any 1 (by omega) W0)
  have hs1 : (ofL (encN 1)).size = 1 := by rw [size_ofL, hl1]
  generalize ofL (encN 1) = s1 at HN hs1
  go_enter Tryz.func132, Tryz.ntmps132
  go_wp2_with fail
  refine HN.out.mono ?_
  rintro e w1 ⟨rfl, hb1⟩
  have HB1 : Hid (Below w.heap.size w w1) := HB0.out.trans (hb1.mono (by omega))
  have HK1 := Lib.hid (HK0.out.below hb1 (by omega))
  clear hb1 hW0 c0 c1 HN
  have HT := Lib.hid (txt7_any d (by omega) w1)
  have hs2 : (ofL (encT (toL d))).size ≤ 60006 := by rw [size_ofL]; exact hle
  generalize ofL (encT (toL d)) = s2 at HT hs2
  have c0 := HK1.out.cell 0; have c1 := HK1.out.cell 1
  simp at c0 c1
  go_wp2_with fail
  refine HT.out.mono ?_
  rintro e w2 ⟨rfl, hb2⟩
  have HB2 : Hid (Below w.heap.size w w2) := HB1.out.trans (hb2.mono HB1.out.size)
  clear hb2 HT c0 c1
  have hsz : ¬ (9223372036854775807 < s1.size + s2.size) := by omega
  go_wp2_with fail
  go_ret
  exact ⟨⟨_, rfl, by rw [ByteArray.size_append]; omega⟩, HB2.out⟩
set_option maxRecDepth 100000 in
set_option maxHeartbeats 2000000 in
theorem check7_any (d : ByteArray) (w : World) (hd : d.size ≤ 60000) : Calls Tryz.prog 88 #[.agg (blobC d)] w fun e w' => e = .returned (.int .i64 0) ∧ Below w.heap.size w w' := by
  have HF := fun w => Lib.hid (fields7_any d w hd)
  have HE := fun w => Lib.hid (enc7_any d w hd)
  unfold blobC at HF HE ⊢
  obtain ⟨W0, hW0⟩ : ∃ W0, w.alloc (.cells #[.int .i64 1, .string d, .slice none 0 0, .int .u64 0, .int .u64 0, .slice none 0 0, .string ⟨#[]⟩, .int .i64 0, .string ⟨#[]⟩] 125) = W0 := ⟨_, rfl⟩
  have HB0 : Hid (Below w.heap.size w W0) := by rw [← hW0]; exact (Below.refl _ w).alloc (Nat.le_refl _) _
  have HK0 : Hid (Bk W0 w.heap.size 125 #[.int .i64 1, .string d, .slice none 0 0, .int .u64 0, .int .u64 0, .slice none 0 0, .string ⟨#[]⟩, .int .i64 0, .string ⟨#[]⟩]) := by rw [← hW0]; exact Bk.new w _ _
  have zW0 : W0.heap.size = w.heap.size + 1 := by rw [← hW0]; simp
  have HF0 := HF W0
  have c0 := HK0.out.cell 0; have c1 := HK0.out.cell 1; have c2 := HK0.out.cell 2; have c3 := HK0.out.cell 3; have c4 := HK0.out.cell 4; have c5 := HK0.out.cell 5; have c6 := HK0.out.cell 6; have c7 := HK0.out.cell 7; have c8 := HK0.out.cell 8
  simp at c0 c1 c2 c3 c4 c5 c6 c7 c8
  clear HF
  go_enter Tryz.func88, Tryz.ntmps88
  go_wp2_with fail
  refine HF0.out.mono ?_
  rintro e w1 ⟨rfl, hb1⟩
  have HB1 : Hid (Below w.heap.size w w1) := HB0.out.trans (hb1.mono (by omega))
  have HK1 := Lib.hid (HK0.out.below hb1 (by omega))
  have HE1 := HE w1
  clear hb1 hW0 c0 c1 c2 c3 c4 c5 c6 c7 c8 HF0 HE
  have c0 := HK1.out.cell 0; have c1 := HK1.out.cell 1; have c2 := HK1.out.cell 2; have c3 := HK1.out.cell 3; have c4 := HK1.out.cell 4; have c5 := HK1.out.cell 5; have c6 := HK1.out.cell 6; have c7 := HK1.out.cell 7; have c8 := HK1.out.cell 8
  simp at c0 c1 c2 c3 c4 c5 c6 c7 c8
  go_wp2_with fail
  refine HE1.out.mono ?_
  rintro e w2 ⟨⟨s, rfl, hs⟩, hb2⟩
  have HB2 : Hid (Below w.heap.size w w2) := HB1.out.trans (hb2.mono HB1.out.size)
  have hsz : ¬ (65536 : Int) < (s.size : Int) := by omega
  clear hb2 HE1 c0 c1 c2 c3 c4 c5 c6 c7 c8
  go_wp2_with fail
  go_ret
  exact ⟨rfl, HB2.out⟩
theorem resultsBl9 {w : World} {a : Array Value} {b : Nat} {d : ByteArray} (ha : a[2]?.getD undef = .pointer (some ⟨b, 0, none⟩)) (h : Bk w b 125 (blobC d)) : (results Tryz.f89 a).run Tryz.prog w = .ok (.agg (blobC d)) w := by
  have c0 := h.cell 0; have c1 := h.cell 1; have c2 := h.cell 2; have c3 := h.cell 3; have c4 := h.cell 4; have c5 := h.cell 5; have c6 := h.cell 6; have c7 := h.cell 7; have c8 := h.cell 8
  simp [blobC] at c0 c1 c2 c3 c4 c5 c6 c7 c8
  simp [results, Tryz.results89, ha, go_sem, blobC, c0, c1, c2, c3, c4, c5, c6, c7, c8]
theorem blob9_any (d : ByteArray) (w : World) : Calls Tryz.prog 89 #[.string d] w fun e w' => e = .returned (.agg (blobC d)) ∧ Below w.heap.size w w' := by
  go_enter Tryz.func89, Tryz.ntmps89
  go_wp2
  have hk : Bk (w.alloc (.cells (blobC d) 125)) w.heap.size 125 (blobC d) := Bk.new w _ _
  exact bodyPost_ret (resultsBl9 rfl hk) rfl ⟨rfl, (Below.refl _ w).alloc (Nat.le_refl _) _⟩
end Go.Proofs.YtddlohbhchjjhaaGreatDoor

namespace Go.Proofs.YtddlohbhchjjhaaGreatDoor
open Go.RowKit Go.Shelf

theorem dirE_of {fs : List Fl} {f g : Fl} (hf : f ∈ fs) (hg : g ∈ fs) (h : belB f.1 g.1 = true) : DirE fs := by
  unfold belB at h
  simp only [Bool.and_eq_true, decide_eq_true_eq] at h
  obtain ⟨h1, h2, h3⟩ := h
  refine ⟨g, hg, f.1.size, h1, ?_⟩
  unfold dirAt
  rw [h2, decide_eq_true h3, Bool.true_and, memB_iff]
  exact List.mem_map_of_mem hf
theorem dirE_no {fs : List Fl} (h : ∀ f ∈ fs, ∀ g ∈ fs, belB f.1 g.1 = false) : ¬ DirE fs := by
  rintro ⟨g, hg, j, hj, hd⟩
  unfold dirAt at hd
  rw [Bool.and_eq_true, decide_eq_true_eq, memB_iff] at hd
  obtain ⟨h1, h2⟩ := hd
  obtain ⟨f, hf, e⟩ := List.mem_map.1 h2
  have := h f hf g hg
  have hs : f.1.size = j := by
    have := congrArg ByteArray.size e
    rw [ByteArray.size_extract] at this
    omega
  unfold belB at this
  rw [hs, ← e, decide_eq_true hj, decide_eq_true h1] at this
  simp at this
set_option maxRecDepth 100000 in
set_option maxHeartbeats 8000000 in
theorem check9_any (A : Option Addr) (n c B : Nat) (fs : List Fl) (w : World) (h0 : Sl w B 2 A n (flat flC fs)) (hB : B ≤ w.heap.size) (hn : n ≤ 1000000) (hsz : ∀ f ∈ fs, f.1.size ≤ 1000000 ∧ f.2.size ≤ 60000) :
    Calls Tryz.prog 44 #[.slice A n c] w fun e w' => ∃ err, e = .returned (.int .i64 err) ∧ TckR fs err ∧ Below w.heap.size w w' := by
  have HL := Lib.hid (h0.len flC_len (by omega))
  have H0 := Lib.hid h0; have HSZ := Lib.hid hsz
  clear h0 hsz
  go_enter Tryz.func44, Tryz.ntmps44
  by_cases hbig : (200 : Int) < (n : Int)
  · have HE : Hid (TckR fs 4) := .inl ⟨by rw [HL.out]; omega, rfl⟩
    go_wp2_with fail
    go_ret
    exact ⟨4, rfl, HE.out, Below.refl _ _⟩
  have hsm : n ≤ 200 := by omega
  obtain ⟨r, hr⟩ : ∃ r, tchk none fs = r := ⟨_, rfl⟩
  have HR := Lib.hid hr
  clear hr
  go_wp2_with fail
  go_loopw [3] (fun i wr => ∃ k : Nat, k ≤ n ∧ i = .int .i64 k ∧ Hid (r = tchk (prevT fs k) (fs.drop k)) ∧ Hid (Below w.heap.size w wr)) (fun i _ => n - (intOf i).toNat)
  case atStart => exact ⟨0, Nat.zero_le _, rfl, HR.out.symm, Below.refl _ _⟩
  case round =>
    obtain ⟨k, hk, rfl, hC, hBel⟩ := hrel
    by_cases hlt : k < n
    · obtain ⟨b, off, f, rfl, hbB, hf, y0, y1⟩ := (H0.out.below hBel.out hB).fl hlt
      have hlz : (k : Int) < (n : Int) := by omega
      have HF := Lib.hid hf
      have hfs := HSZ.out f (List.mem_of_getElem? hf)
      have HC := hC
      rw [tchk_at hf] at HC
      have HPT := Lib.hid (path9_any f.1 wr hfs.1)
      clear hf hC
      go_wp2_with (go_at_call 87; refine HPT.out.mono ?_; rintro e w3 ⟨rfl, hb3⟩; refine halt_ ?_)
      refine unhalt ?_
      have HB3 : Hid (Below w.heap.size w w3) := hBel.out.trans (hb3.mono hBel.out.size)
      have hz0 := hBel.out.size; have hz3 := hb3.size
      have y0 := (hb3.cell (p := ⟨b, off + k * 2, none⟩) (by show b < _; omega)).trans y0
      have y1 := (hb3.cell (p := ⟨b, off + k * 2 + 1, none⟩) (by show b < _; omega)).trans y1
      clear hb3 HPT
      cases hp : pathB f.1 with
      | false =>
        have HE : Hid (TckR fs 6) := .inr (.inl ⟨by rw [HL.out]; omega, by rw [HR.out, HC.out, hp]; simp, by rw [HR.out, HC.out, hp]; simp⟩)
        clear hp
        go_wp2_with fail
        go_ret
        exact ⟨6, rfl, HE.out, HB3.out⟩
      | true =>
        rw [hp, if_pos rfl] at HC
        have HBL := Lib.hid (blob9_any f.2 w3)
        clear hp
        go_wp2_with (go_at_call 89; refine HBL.out.mono ?_; rintro e w4 ⟨rfl, hb4⟩; refine halt_ ?_)
        refine unhalt ?_
        have HOC := Lib.hid (check7_any f.2 w4 hfs.2)
        have HB4 : Hid (Below w.heap.size w w4) := HB3.out.trans (hb4.mono HB3.out.size)
        clear hb4 HBL y0 y1
        go_wp2_with (go_at_call 88; refine HOC.out.mono ?_; rintro e w5 ⟨rfl, hb5⟩; refine halt_ ?_)
        refine unhalt ?_
        have HB5 : Hid (Below w.heap.size w w5) := HB4.out.trans (hb5.mono HB4.out.size)
        clear hb5 HOC
        obtain ⟨b', off', f', hfe, hbB', hf', y0, y1⟩ := (H0.out.below HB5.out hB).fl hlt
        cases hfe
        obtain rfl : f' = f := by rw [HF.out] at hf'; exact (Option.some.inj hf').symm
        clear hf'
        cases k with
        | zero =>
          have HN : Hid (r = tchk (prevT fs 1) (fs.drop 1)) := by
            show _ = _
            rw [HC.out, if_pos]; rfl
          go_wp2_with fail
          go_quiet (fail)
          go_wp2_with fail
          go_roundw
          case rel => exact ⟨1, hlt, by first | rfl | go_num, HN.out, below_drewN HB5.out _⟩
          case measure => simp [intOf]; omega
        | succ j =>
          obtain ⟨b', off', p, hpe, hbp, hpf, z0, z1⟩ := (H0.out.below HB5.out hB).fl (k := j) (by omega)
          cases hpe
          have HPV : Hid (prevT fs (j + 1) = some p.1) := by show _ = _; unfold prevT; rw [if_neg (by omega), Nat.add_sub_cancel, hpf]; rfl
          have hle := less_str p.1 f'.1
          have hkp : (0 : Int) < ((j + 1 : Nat) : Int) := by omega
          have hw1 : IntKind.i64.wrap (((j + 1 : Nat) : Int) - 1) = (j : Int) := by rw [wrap_sm (by omega) (by omega)]; omega
          have hj1 : ¬ (j : Int) < 0 := by omega
          have hj2 : (j : Int) < (n : Int) := by omega
          clear hpf
          cases hl : less p.1 f'.1 with
          | true =>
            rw [hl] at hle
            have HN : Hid (r = tchk (prevT fs (j + 1 + 1)) (fs.drop (j + 1 + 1))) := by
              show _ = _
              rw [HC.out, if_pos]; rw [HPV.out]; exact hl
            clear hl
            go_wp2_with fail
            go_quiet (fail)
            go_wp2_with fail
            go_roundw
            case rel => exact ⟨j + 1 + 1, hlt, by go_num, HN.out, below_drewN HB5.out _⟩
            case measure => simp [intOf]; omega
          | false =>
            rw [hl] at hle
            have HE : Hid (TckR fs 10) := by
              have h1 : r = 10 := by rw [HC.out, if_neg]; rw [HPV.out]; show ¬ (less p.1 f'.1 = true); rw [hl]; simp
              exact .inr (.inl ⟨by rw [HL.out]; omega, by rw [HR.out, h1]; simp, by rw [HR.out, h1]⟩)
            clear hl
            go_wp2_with fail
            go_quiet (fail)
            go_wp2_with fail
            go_ret
            exact ⟨10, rfl, HE.out, below_drewN HB5.out _⟩
    · have hlz : ¬ (k : Int) < (n : Int) := by omega
      have HT0 : Hid (tchk none fs = 0) := by
        show _ = _
        rw [HR.out, hC.out, List.drop_of_length_le (by rw [HL.out]; omega)]
        rfl
      have HNO : Hid ((∀ f ∈ fs, ∀ g ∈ fs, belB f.1 g.1 = false) → TckR fs 0) := fun h => .inr (.inr ⟨by rw [HL.out]; omega, HT0.out, .inr ⟨dirE_no h, rfl⟩⟩)
      have HYE : Hid (∀ f ∈ fs, ∀ g ∈ fs, belB f.1 g.1 = true → TckR fs 7) := fun f hf g hg h => .inr (.inr ⟨by rw [HL.out]; omega, HT0.out, .inl ⟨dirE_of hf hg h, rfl⟩⟩)
      clear hC
      go_wp2_with fail
      obtain ⟨wo, hwo⟩ : ∃ wo, wo = wr := ⟨_, rfl⟩
      subst hwo
      go_loopw [4] (fun i wr => ∃ k : Nat, k ≤ n ∧ i = .int .i64 k ∧ Hid (∀ f ∈ fs.take k, ∀ g ∈ fs, belB f.1 g.1 = false) ∧ Hid (Below w.heap.size w wr)) (fun i _ => n - (intOf i).toNat)
      case atStart => exact ⟨0, Nat.zero_le _, rfl, fun f hf => by simp at hf, hBel.out⟩
      case round =>
        obtain ⟨i, hi, rfl, hI, hBr⟩ := hrel
        by_cases hil : i < n
        · have hiz : (i : Int) < (n : Int) := by omega
          obtain ⟨b, off, f, rfl, hbB, hf, y0, y1⟩ := (H0.out.below hBr.out hB).fl hil
          have HF := Lib.hid hf
          have HFM := Lib.hid (List.mem_of_getElem? hf)
          clear hf y0 y1
          go_wp2_with fail
          obtain ⟨wp, hwp⟩ : ∃ wo, wo = wr := ⟨_, rfl⟩
          subst hwp
          go_loopw [5] (fun i wr => ∃ k : Nat, k ≤ n ∧ i = .int .i64 k ∧ Hid (∀ g ∈ fs.take k, belB f.1 g.1 = false) ∧ Hid (Below w.heap.size w wr)) (fun i _ => n - (intOf i).toNat)
          case atStart => exact ⟨0, Nat.zero_le _, rfl, fun f hf => by simp at hf, hBr.out⟩
          case round =>
            obtain ⟨j, hj, rfl, hJ, hBq⟩ := hrel
            by_cases hjl : j < n
            · have hjz : (j : Int) < (n : Int) := by omega
              obtain ⟨b1, off1, f1, he1, hbB1, hf1, y0, y1⟩ := (H0.out.below hBq.out hB).fl hil
              cases he1
              obtain rfl : f1 = f := by rw [HF.out] at hf1; exact (Option.some.inj hf1).symm
              obtain ⟨b1, off1, g, he1, hbB2, hg, z0, z1⟩ := (H0.out.below hBq.out hB).fl hjl
              cases he1
              have HG := Lib.hid hg
              have HBE : Hid (∀ q, Calls Tryz.prog 90 #[.string f1.1, .string g.1] (wr.drewN q) fun e w' => e = .returned (.bool (belB f1.1 g.1)) ∧ w' = wr.drewN q) := fun q => (below9_any f1.1 g.1 (wr.drewN q)).mono fun e w' h => ⟨h.1, h.2.symm⟩
              clear hf1 hg y1 z1
              cases hb : belB f1.1 g.1 with
              | true =>
                have HE := Lib.hid (HYE.out f1 HFM.out g (List.mem_of_getElem? HG.out) hb)
                rw [hb] at HBE
                clear hb
                go_wp2_with fail
                go_quiet (first | (go_at_call 90; exact Calls.quiet_of_same (HBE.out _)))
                go_wp2_with fail
                go_ret
                exact ⟨7, rfl, HE.out, below_drewN hBq.out _⟩
              | false =>
                have HN : Hid (∀ g ∈ fs.take (j + 1), belB f1.1 g.1 = false) := fun y hy => by
                  rw [take_snoc HG.out] at hy
                  rcases List.mem_append.1 hy with hy | hy
                  · exact hJ.out y hy
                  · rw [List.mem_singleton.1 hy]; exact hb
                rw [hb] at HBE
                clear hb
                go_wp2_with fail
                go_quiet (first | (go_at_call 90; exact Calls.quiet_of_same (HBE.out _)))
                go_wp2_with fail
                go_roundw
                case rel => exact ⟨j + 1, hjl, by go_num, HN.out, below_drewN hBq.out _⟩
                case measure => simp [intOf]; omega
            · have hjz : ¬ (j : Int) < (n : Int) := by omega
              have HN : Hid (∀ f ∈ fs.take (i + 1), ∀ g ∈ fs, belB f.1 g.1 = false) := fun y hy g hg => by
                rw [take_snoc HF.out] at hy
                rcases List.mem_append.1 hy with hy | hy
                · exact hI.out y hy g hg
                · rw [List.mem_singleton.1 hy]
                  exact hJ.out g (by rw [List.take_of_length_le (by rw [HL.out]; omega)]; exact hg)
              go_wp2_with fail
              go_roundw
              case rel => exact ⟨i + 1, hil, by go_num, HN.out, hBq.out⟩
              case measure => simp [intOf]; omega
        · have hiz : ¬ (i : Int) < (n : Int) := by omega
          have HE : Hid (TckR fs 0) := HNO.out fun f hf => hI.out f (by rw [List.take_of_length_le (by rw [HL.out]; omega)]; exact hf)
          go_wp2_with fail
          go_ret
          exact ⟨0, rfl, HE.out, hBr.out⟩
end Go.Proofs.YtddlohbhchjjhaaGreatDoor

namespace Go.Proofs.YtddlohbhchjjhaaGreatDoor
open Go.RowKit Go.Shelf

theorem okW_at {k : Nat} {ws u : List Wd} {c : Ct} (h : stW k ws = (u, c)) : okW k ws = (partW k u c).1 := by rw [okW, h]
theorem stW_at {k : Nat} {ws u : List Wd} {c : Ct} (h : stW k ws = (u, c)) : stW (k + 1) ws = (partW k u c).2 := by rw [stW, h]
theorem upto1 {p : Nat → Prop} (h0 : p 0) : ∀ j < 1, p j := fun j h => by
  have e : j = 0 := by omega
  rw [e]; exact h0
theorem uptoS {p : Nat → Prop} {k : Nat} (h : ∀ j < k, p j) (hk : p k) : ∀ j < k + 1, p j := fun j hj => by
  by_cases e : j = k
  · subst e; exact hk
  · exact h j (by omega)
theorem part4_eq (u : List Wd) (c : Ct) : partW 4 u c = (decide (nxtW u = semiW), (if nxtW u = semiW then u.tail else u), c) := rfl
end Go.Proofs.YtddlohbhchjjhaaGreatDoor

namespace Go.Proofs.YtddlohbhchjjhaaGreatDoor
open Go.RowKit Go.Shelf

structure SepOk (w : ByteArray) : Prop where
  ne : bl w ≠ []
  no : ∀ c ∈ bl w, c ≠ 32 ∧ c ≠ 10
  hd : ∀ c, (bl w)[0]? = some c → c ≠ 35
theorem wdf_one {s : ByteArray} {pre post : List UInt8} {w : ByteArray} {x : UInt8} (h : bl s = pre ++ (bl w ++ x :: post)) (hw : SepOk w) (hx : x = 32 ∨ x = 10) {ws : List Wd}
    (hr : WdF s (pre.length + w.size + 1) ws) : WdF s pre.length ((w, pre.length) :: ws) := by
  have hl : (bl w).length = w.size := bl_len w
  have hpos : 0 < w.size := by rw [← hl]; exact List.length_pos_iff.2 hw.ne
  have hsz : s.size = pre.length + (w.size + (post.length + 1)) := by rw [← bl_len, h]; simp [hl]
  have hin : ∀ j, j < w.size → (bl s)[pre.length + j]? = (bl w)[j]? := fun j hj => by
    rw [h, List.getElem?_append_right (by omega), Nat.add_sub_cancel_left, List.getElem?_append_left (by omega)]
  have hat : (bl s)[pre.length + w.size]? = some x := by
    rw [h, List.getElem?_append_right (by omega), Nat.add_sub_cancel_left, List.getElem?_append_right (by omega), hl, Nat.sub_self]; rfl
  have hex : s.extract pre.length (pre.length + w.size) = w := by
    apply bl_inj
    unfold bl at h hl ⊢
    rw [extract_list, h, List.drop_left, Nat.add_sub_cancel_left, ← hl, List.take_left]
  obtain ⟨c, hc⟩ : ∃ c, (bl w)[0]? = some c := ⟨_, List.getElem?_eq_getElem (by omega)⟩
  have hcm := hw.no c (List.mem_of_getElem? hc)
  have h1 : WdF s pre.length ((s.extract pre.length (pre.length + w.size), pre.length) :: ws) := by
    refine .word (c := c) (by have := hin 0 hpos; rwa [Nat.add_zero, hc] at this) hcm.1 hcm.2 (hw.hd c hc) ⟨by omega, by omega, fun j d h1 h2 hd => ?_, fun d hd => ?_⟩ (.blank hat hx hr)
    · have := hin (j - pre.length) (by omega)
      rw [show pre.length + (j - pre.length) = j by omega, hd] at this
      exact hw.no d (List.mem_of_getElem? this.symm)
    · rw [hat] at hd; cases hd
      rcases hx with rfl | rfl <;> simp
  rwa [hex] at h1
def offW : Nat → List ByteArray → List Wd
  | _, [] => []
  | a, w :: ws => (w, a) :: offW (a + w.size + 1) ws
def txtW (l : List (ByteArray × UInt8)) : List UInt8 := l.flatMap fun p => bl p.1 ++ [p.2]
theorem wdf_all {s : ByteArray} : ∀ (l : List (ByteArray × UInt8)) (pre : List UInt8), bl s = pre ++ txtW l → (∀ p ∈ l, SepOk p.1 ∧ (p.2 = 32 ∨ p.2 = 10)) → WdF s pre.length (offW pre.length (l.map Prod.fst))
  | [], pre, h, _ => .done (by rw [← bl_len, h]; simp [txtW])
  | p :: l, pre, h, hp => by
    have h' : bl s = pre ++ (bl p.1 ++ p.2 :: txtW l) := by rw [h]; simp [txtW]
    have h2 := wdf_all l (pre ++ (bl p.1 ++ [p.2])) (by rw [h]; simp [txtW]) (fun q hq => hp q (by simp [hq]))
    have e : (pre ++ (bl p.1 ++ [p.2])).length = pre.length + p.1.size + 1 := by simp [bl_len]; omega
    rw [e] at h2
    exact wdf_one h' (hp p (by simp)).1 (hp p (by simp)).2 h2
def kindW (k : Int) : ByteArray := if k = 2 then testW else libW
def optP (t : ByteArray) (l : List ByteArray) : List ByteArray := if l = [] then [] else t :: l
def partsI (c : Ct) : List ByteArray := kindW c.1 :: c.2.1 :: (optP depsW c.2.2.1 ++ optP visibleW c.2.2.2)
def partsW (c : Ct) : List ByteArray := partsI c ++ [semiW]
def sepsW (c : Ct) : List (ByteArray × UInt8) := (partsI c).map (fun w => (w, 32)) ++ [(semiW, 10)]
theorem sepsW_fst (c : Ct) : (sepsW c).map Prod.fst = partsW c := by simp [sepsW, partsW, Function.comp_def]
theorem offW_app : ∀ (l m : List ByteArray) (a : Nat), ∃ b, offW a (l ++ m) = offW a l ++ offW b m
  | [], m, a => ⟨a, rfl⟩
  | x :: l, m, a => by
    obtain ⟨b, hb⟩ := offW_app l m (a + x.size + 1)
    exact ⟨b, by simp [offW, hb]⟩
theorem elW_off {v : ByteArray → Bool} : ∀ (l : List ByteArray) (a : Nat), (∀ x ∈ l, v x = true) → ∀ ws, v (nxtW ws) = false → elW v (offW a l ++ ws) = (l, ws)
  | [], a, _, ws, hw => elW_stop hw
  | x :: l, a, hl, ws, hw => by
    simp only [offW, List.cons_append]
    rw [elW_step (x := (x, a)) (hl x (by simp)), elW_off l _ (fun y hy => hl y (by simp [hy])) ws hw]
theorem optW_off {t : ByteArray} {v : ByteArray → Bool} {l m : List ByteArray} (hl : ∀ x ∈ l, v x = true) (hm : ∀ b, v (nxtW (offW b m)) = false ∧ nxtW (offW b m) ≠ t) (a : Nat) :
    ∃ b, optW t v (offW a (optP t l ++ m)) = (true, l, offW b m) := by
  by_cases h : l = []
  · refine ⟨a, ?_⟩
    have e : optP t l = [] := if_pos h
    rw [e, List.nil_append, optW, if_neg (hm a).2, h]
  · have e : optP t l = t :: l := if_neg h
    rw [e]
    obtain ⟨b, hb⟩ := offW_app l m (a + t.size + 1)
    refine ⟨b, ?_⟩
    simp only [List.cons_append, offW]
    have e0 : nxtW ((t, a) :: (offW (a + t.size + 1) l ++ offW b m)) = t := rfl
    rw [hb, optW, if_pos e0, List.tail_cons, elW_off l _ hl _ (hm b).1]
    rw [decide_eq_true (List.length_pos_iff.2 h)]
theorem elE_ok {ok : ByteArray → Bool} : ∀ {l seen : List ByteArray}, elE ok seen l = 0 → ∀ x ∈ l, ok x = true
  | [], _, _, x, hx => by cases hx
  | y :: l, seen, h, x, hx => by
    simp only [elE] at h
    split at h
    · rename_i h1
      split at h
      · cases h
      · rcases List.mem_cons.1 hx with rfl | hx
        · exact h1
        · exact elE_ok h x hx
    · cases h
theorem stW_off {c : Ct} (hc : ruleE (ctT c) = 0) (rest : List ByteArray) (a : Nat) :
    ∃ b, (∀ j < 5, okW j (offW a (partsW c ++ rest)) = true) ∧ stW 5 (offW a (partsW c ++ rest)) = (offW b rest, c) := by
  obtain ⟨hn, _, _, hk, hd, hv⟩ := ruleE_ok hc
  obtain ⟨k, name, deps, vis⟩ := c
  simp only [ctT] at hn hk hd hv
  have e : offW a (partsW (k, name, deps, vis) ++ rest) = (kindW k, a) :: (name, a + (kindW k).size + 1) :: offW (a + (kindW k).size + 1 + name.size + 1) (optP depsW deps ++ (optP visibleW vis ++ (semiW :: rest))) := by
    simp [partsW, partsI, offW]
  rw [e]
  generalize a + (kindW k).size + 1 = a1
  generalize a1 + name.size + 1 = a2
  have m2 : ∀ b, viewB (nxtW (offW b (semiW :: rest))) = false ∧ nxtW (offW b (semiW :: rest)) ≠ visibleW := fun b => ⟨by show viewB semiW = false; decide, by show semiW ≠ visibleW; decide⟩
  have m1 : ∀ b, frlB (nxtW (offW b (optP visibleW vis ++ (semiW :: rest)))) = false ∧ nxtW (offW b (optP visibleW vis ++ (semiW :: rest))) ≠ depsW := fun b => by
    by_cases h : vis = []
    · have e : optP visibleW vis = [] := if_pos h
      rw [e]; exact ⟨by show frlB semiW = false; decide, by show semiW ≠ depsW; decide⟩
    · have e : optP visibleW vis = visibleW :: vis := if_neg h
      rw [e]; exact ⟨by show frlB visibleW = false; decide, by show visibleW ≠ depsW; decide⟩
  obtain ⟨b1, h1⟩ := optW_off (t := depsW) (elE_ok hd) m1 a2
  obtain ⟨b2, h2⟩ := optW_off (t := visibleW) (elE_ok hv) m2 b1
  generalize offW a2 (optP depsW deps ++ (optP visibleW vis ++ (semiW :: rest))) = U2 at h1
  generalize offW b1 (optP visibleW vis ++ (semiW :: rest)) = U3 at h1 h2
  have h0 : stW 0 ((kindW k, a) :: (name, a1) :: U2) = ((kindW k, a) :: (name, a1) :: U2, ctZ) := rfl
  have s1 := stW_at h0
  have o0 := okW_at h0
  have p0 : partW 0 ((kindW k, a) :: (name, a1) :: U2) ctZ = (true, (name, a1) :: U2, (k, ⟨#[]⟩, [], [])) := by
    rcases hk with rfl | rfl
    · rfl
    · rfl
  rw [p0] at s1 o0
  have s2 := stW_at s1
  have o1 := okW_at s1
  have p1 : partW 1 ((name, a1) :: U2) (k, ⟨#[]⟩, [], []) = (true, U2, (k, name, [], [])) := by
    have e1 : partW 1 ((name, a1) :: U2) (k, ⟨#[]⟩, [], []) = (freB name, (if freB name = true then U2 else (name, a1) :: U2), (k, name, [], [])) := rfl
    rw [e1, if_pos hn, hn]
  rw [p1] at s2 o1
  have s3 := stW_at s2
  have o2 := okW_at s2
  have p2 : partW 2 U2 (k, name, [], []) = (true, U3, (k, name, deps, [])) := by
    simp only [partW]; rw [h1]
  rw [p2] at s3 o2
  have s4 := stW_at s3
  have o3 := okW_at s3
  have p3 : partW 3 U3 (k, name, deps, []) = (true, offW b2 (semiW :: rest), (k, name, deps, vis)) := by
    simp only [partW]; rw [h2]
  rw [p3] at s4 o3
  have s5 := stW_at s4
  have o4 := okW_at s4
  have p4 : partW 4 (offW b2 (semiW :: rest)) (k, name, deps, vis) = (true, offW (b2 + semiW.size + 1) rest, (k, name, deps, vis)) := by
    rw [part4_eq]; simp [offW, nxtW]
  rw [p4] at s5 o4
  exact ⟨_, uptoS (uptoS (uptoS (uptoS (upto1 o0) o1) o2) o3) o4, s5⟩
theorem prs_off : ∀ {cs : List Ct}, (∀ c ∈ cs, ruleE (ctT c) = 0) → ∀ a, Prs (offW a (cs.flatMap partsW)) (.inl cs)
  | [], _, a => .done
  | c :: cs, h, a => by
    obtain ⟨b, h1, h2⟩ := stW_off (h c (by simp)) (cs.flatMap partsW) a
    have ih := prs_off (cs := cs) (fun d hd => h d (by simp [hd])) b
    have e : (c :: cs).flatMap partsW = partsW c ++ cs.flatMap partsW := rfl
    have := Prs.all (ws := offW a ((c :: cs).flatMap partsW)) (cs := cs) (by rw [e]; simp [partsW, partsI, offW]) (by rw [e]; exact h1) (by rw [e, h2]; exact ih)
    rw [e, h2] at this
    rw [e]; exact this
/-! ### the words of rules can be read -/
theorem splitS_mem : ∀ {l : List UInt8} {c : UInt8}, c ∈ l → c = 47 ∨ ∃ p ∈ splitS l, c ∈ p
  | [], c, h => by cases h
  | d :: r, c, h => by
    unfold splitS
    by_cases e : d = 47
    · rw [if_pos e]
      rcases List.mem_cons.1 h with rfl | h
      · exact .inl e
      · rcases splitS_mem h with h | ⟨p, hp, hc⟩
        · exact .inl h
        · exact .inr ⟨p, by simp [hp], hc⟩
    · rw [if_neg e]
      cases hs : splitS r with
      | nil => exact absurd hs (splitS_ne r)
      | cons q t =>
        rcases List.mem_cons.1 h with rfl | h
        · exact .inr ⟨c :: q, by simp, by simp⟩
        · rcases splitS_mem h with h | ⟨p, hp, hc⟩
          · exact .inl h
          · rw [hs] at hp
            rcases List.mem_cons.1 hp with rfl | hp
            · exact .inr ⟨d :: p, by simp, by simp [hc]⟩
            · exact .inr ⟨p, by simp [hp], hc⟩
theorem labL_ch {l : List UInt8} (h : labL l = true) : l ≠ [] ∧ ∀ c ∈ l, c ≠ 32 ∧ c ≠ 10 ∧ c ≠ 35 := by
  unfold labL at h
  rw [Bool.and_eq_true, List.all_eq_true] at h
  refine ⟨fun e => ?_, fun c hc => ?_⟩
  · subst e
    have := h.2 [] (by simp [splitS])
    cases this
  · rcases splitS_mem hc with rfl | ⟨p, hp, hcp⟩
    · decide
    · have hw := h.2 p hp
      unfold partL at hw
      rw [Bool.and_eq_true] at hw
      have h2 := ((wordL_iff p).1 hw.2).2
      obtain ⟨j, hj, e⟩ := List.getElem_of_mem hcp
      have h3 := h2 j c hj (by rw [← e]; exact List.getElem?_eq_getElem _)
      have h4 : 48 ≤ (c.toNat : Int) := by
        unfold okC ltrB dgtB ltrI dgtI at h3
        simp only [Bool.or_eq_true, Bool.and_eq_true, decide_eq_true_eq] at h3
        omega
      refine ⟨?_, ?_, ?_⟩ <;> (rintro rfl; revert h4; decide)
theorem SepOk.of {w : ByteArray} (h1 : bl w ≠ []) (h2 : ∀ c ∈ bl w, c ≠ 32 ∧ c ≠ 10 ∧ c ≠ 35) : SepOk w :=
  ⟨h1, fun c hc => ⟨(h2 c hc).1, (h2 c hc).2.1⟩, fun c hc => (h2 c (List.mem_of_getElem? hc)).2.2⟩
theorem SepOk.lab {w : ByteArray} (h : labB w = true) : SepOk w := .of (labL_ch h).1 (labL_ch h).2
theorem SepOk.view {w : ByteArray} (h : viewB w = true) : SepOk w := by
  unfold viewB at h
  by_cases hs : Lib.hasSuffix (bl w) [47] = true
  · rw [if_pos hs] at h
    obtain ⟨m, hm⟩ := List.isSuffixOf_iff_suffix.1 hs
    have ht : Lib.trimSuffix (bl w) [47] = m := by unfold Lib.trimSuffix; rw [if_pos hs, ← hm]; simp
    rw [ht] at h
    have hc := labL_ch h
    refine .of (by rw [← hm]; simp) fun c hcm => ?_
    rw [← hm] at hcm
    rcases List.mem_append.1 hcm with hcm | hcm
    · exact hc.2 c hcm
    · rw [List.mem_singleton.1 hcm]; decide
  · rw [if_neg hs, Bool.or_eq_true, decide_eq_true_eq] at h
    rcases h with rfl | h
    · exact .of (by decide) (by decide)
    · unfold frlB at h
      rw [Bool.and_eq_true] at h
      exact .lab h.1
theorem partsI_sep {c : Ct} (hc : ruleE (ctT c) = 0) : ∀ w ∈ partsI c, SepOk w := by
  obtain ⟨hn, _, _, hk, hd, hv⟩ := ruleE_ok hc
  obtain ⟨k, name, deps, vis⟩ := c
  simp only [ctT] at hn hk hd hv
  have hlit : ∀ w ∈ [libW, testW, depsW, visibleW], SepOk w := by
    intro w hw
    simp only [List.mem_cons, List.mem_nil_iff, or_false] at hw
    rcases hw with rfl | rfl | rfl | rfl <;> exact .of (by decide) (by decide)
  have hopt : ∀ (t : ByteArray) (l : List ByteArray), SepOk t → (∀ x ∈ l, SepOk x) → ∀ w ∈ optP t l, SepOk w := fun t l ht hl w hw => by
    unfold optP at hw
    split at hw
    · cases hw
    · rcases List.mem_cons.1 hw with rfl | hw
      · exact ht
      · exact hl w hw
  intro w hw
  simp only [partsI, List.mem_cons, List.mem_append] at hw
  rcases hw with rfl | rfl | hw | hw
  · unfold kindW; split
    · exact hlit _ (by simp)
    · exact hlit _ (by simp)
  · unfold freB namT at hn
    rw [Bool.and_eq_true, Bool.and_eq_true] at hn
    exact .lab hn.1.1
  · refine hopt _ _ (hlit _ (by simp)) (fun x hx => ?_) w hw
    have := elE_ok hd x hx
    unfold frlB at this
    rw [Bool.and_eq_true] at this
    exact .lab this.1
  · exact hopt _ _ (hlit _ (by simp)) (fun x hx => .view (elE_ok hv x hx)) w hw
theorem par_print {s : ByteArray} {cs : List Ct} (hz : s.size ≤ 65536) (h : bl s = txtW (cs.flatMap sepsW)) (hc : checkC cs = 0) : ParR s cs 0 0 := by
  have hr : ∀ c ∈ cs, ruleE (ctT c) = 0 := fun c hcm => (checkE_ok hc).2 _ (List.mem_map_of_mem hcm)
  have hsep : ∀ p ∈ cs.flatMap sepsW, SepOk p.1 ∧ (p.2 = 32 ∨ p.2 = 10) := by
    intro p hp
    obtain ⟨c, hcm, hp⟩ := List.mem_flatMap.1 hp
    unfold sepsW at hp
    rcases List.mem_append.1 hp with hp | hp
    · obtain ⟨w, hw, rfl⟩ := List.mem_map.1 hp
      exact ⟨partsI_sep (hr c hcm) w hw, .inl rfl⟩
    · rw [List.mem_singleton.1 hp]; exact ⟨.of (by decide) (by decide), .inr rfl⟩
  have h1 := wdf_all (cs.flatMap sepsW) [] (by simpa using h) hsep
  have e : (cs.flatMap sepsW).map Prod.fst = cs.flatMap partsW := by
    rw [List.map_flatMap]; congr 1; funext c; exact sepsW_fst c
  rw [e] at h1
  exact .inr ⟨hz, _, h1, .inr (.inr ⟨cs, prs_off hr 0, .inr ⟨hc, rfl, rfl, rfl⟩⟩)⟩
theorem inter_txt : ∀ (l : List ByteArray) (x : ByteArray), [32].intercalate ((l ++ [x]).map bl) ++ [10] = txtW (l.map (fun w => (w, 32)) ++ [(x, 10)])
  | [], x => by simp [txtW, List.intercalate]
  | y :: l, x => by
    have ih := inter_txt l x
    have : [32].intercalate ((y :: l ++ [x]).map bl) = bl y ++ [32] ++ [32].intercalate ((l ++ [x]).map bl) := by
      cases l with
      | nil => simp [List.intercalate]
      | cons z l => simp [List.intercalate]
    rw [this, List.append_assoc, ih]
    simp [txtW]
end Go.Proofs.YtddlohbhchjjhaaGreatDoor

namespace Go.Proofs
open Go.Shelf
def Tryz.layJ_ren : Go.Shelf.Ren := ⟨fun | 156 => 83 | 165 => 118 | 166 => 82 | 169 => 84 | 240 => 117 | 241 => 169 | 276 => 168 | 277 => 218 | n => n, fun | 31 => 33 | 9 => 9 | 3 => 3 | 4 => 4 | 0 => 0 | 20 => 20 | 72 => 108 | 76 => 111 | 70 => 105 | 37 => 106 | 75 => 110 | 127 => 146 | 164 => 191 | 5 => 5 | 80 => 114 | n => n, fun | n => n⟩
theorem Tryz.layJ : Go.Proofs.Lays.n156 Tryz.prog Tryz.layJ_ren := {
  mixed := by kernel_rfl
  f156 := Tryz.func83.trans (congrArg some (by kernel_rfl))
  f165 := Tryz.func118.trans (congrArg some (by kernel_rfl))
  f166 := Tryz.func82.trans (congrArg some (by kernel_rfl))
  f169 := Tryz.func84.trans (congrArg some (by kernel_rfl))
  f240 := Tryz.func117.trans (congrArg some (by kernel_rfl))
  f241 := Tryz.func169.trans (congrArg some (by kernel_rfl))
  f276 := Tryz.func168.trans (congrArg some (by kernel_rfl))
  f277 := Tryz.func218.trans (congrArg some (by kernel_rfl))
  t0 := Tryz.underlying0
  a0 := Tryz.isAgg0
  z0 := Tryz.sizeOf0
  v0 := Tryz.zeroValue0
  t3 := Tryz.underlying3
  a3 := Tryz.isAgg3
  z3 := Tryz.sizeOf3
  v3 := Tryz.zeroValue3
  t4 := Tryz.underlying4
  a4 := Tryz.isAgg4
  z4 := Tryz.sizeOf4
  v4 := Tryz.zeroValue4
  t9 := Tryz.underlying9
  a9 := Tryz.isAgg9
  z9 := Tryz.sizeOf9
  v9 := Tryz.zeroValue9
  t20 := Tryz.underlying20
  a20 := Tryz.isAgg20
  z20 := Tryz.sizeOf20
  v20 := Tryz.zeroValue20
  t31 := Tryz.underlying33
  a31 := Tryz.isAgg33
  z31 := Tryz.sizeOf33
  v31 := Tryz.zeroValue33
  t37 := Tryz.underlying106
  a37 := Tryz.isAgg106
  z37 := Tryz.sizeOf106
  v37 := Tryz.zeroValue106
  t70 := Tryz.underlying105
  a70 := Tryz.isAgg105
  z70 := Tryz.sizeOf105
  v70 := Tryz.zeroValue105
  t72 := Tryz.underlying108
  a72 := Tryz.isAgg108
  z72 := Tryz.sizeOf108
  v72 := Tryz.zeroValue108
  t75 := Tryz.underlying110
  a75 := Tryz.isAgg110
  z75 := Tryz.sizeOf110
  v75 := Tryz.zeroValue110
  t76 := Tryz.underlying111
  a76 := Tryz.isAgg111
  z76 := Tryz.sizeOf111
  v76 := Tryz.zeroValue111
  t127 := Tryz.underlying146
  a127 := Tryz.isAgg146
  z127 := Tryz.sizeOf146
  v127 := Tryz.zeroValue146
  t164 := Tryz.underlying191
  a164 := Tryz.isAgg191
  z164 := Tryz.sizeOf191
  v164 := Tryz.zeroValue191 }
end Go.Proofs

namespace Go.Proofs.YtddlohbhchjjhaaGreatDoor
open Go.RowKit Go.Shelf

theorem joinX : Builder.Extra Tryz.prog Tryz.layJ_ren := {
  sizeBuilder := by kernel_rfl
  liesBuilder := by kernel_rfl
  t5 := Tryz.underlying5
  a5 := Tryz.isAgg5
  z5 := Tryz.sizeOf5
  v5 := Tryz.zeroValue5
  infoByte := by kernel_rfl
  cellsByte := by kernel_rfl
  sizeByte := by kernel_rfl
  neB5 := by decide }
def joinB (l : List ByteArray) (sep : ByteArray) : ByteArray := ⟨(Lib.join (l.map (·.data.toList)) sep.data.toList).toArray⟩
theorem bl_join (l : List ByteArray) (sep : ByteArray) : bl (joinB l sep) = (bl sep).intercalate (l.map bl) := rfl
theorem join_any' (A : Option Addr) (n c B : Nat) (l : List ByteArray) (sep : ByteArray) (w : World) (h : Sl w B 1 A n (strs l)) (hB : B ≤ w.heap.size) (hn : n ≤ c) (hn0 : 0 < n) (hn2 : n ≤ 1000000) (hs : (joinB l sep).size ≤ 140737488355328) :
    Calls Tryz.prog 83 #[.slice A n c, .string sep] w fun e w' => e = .returned (.string (joinB l sep)) ∧ Below w.heap.size w w' := by
  obtain ⟨b, off, rfl, hb, hc⟩ := h.2 hn0
  have hl : l.length = n := by have := h.1; rw [strs_len] at this; omega
  have hc' := Any.strings_Join Tryz.layJ joinX b off c l sep w (fun j x hx => by
    have := hc j (.string x) (by rw [strs, List.getElem?_map, hx]; rfl)
    exact this) (by omega) (by omega) (by omega) (by simpa [joinB, ByteArray.size] using hs)
  rw [hl] at hc'
  exact hc'
end Go.Proofs.YtddlohbhchjjhaaGreatDoor

namespace Go.Proofs.YtddlohbhchjjhaaGreatDoor
open Go.RowKit Go.Shelf

theorem viewB_size {s : ByteArray} (h : viewB s = true) : s.size ≤ 91 := by
  unfold viewB at h
  by_cases hs : Lib.hasSuffix (bl s) [47] = true
  · rw [if_pos hs] at h
    obtain ⟨m, hm⟩ := List.isSuffixOf_iff_suffix.1 hs
    have ht : Lib.trimSuffix (bl s) [47] = m := by unfold Lib.trimSuffix; rw [if_pos hs, ← hm]; simp
    rw [ht] at h
    unfold labL at h
    rw [Bool.and_eq_true, decide_eq_true_eq] at h
    rw [← bl_len, ← hm]
    simp
    exact h.1
  · rw [if_neg hs, Bool.or_eq_true, decide_eq_true_eq] at h
    rcases h with rfl | h
    · decide
    · unfold frlB at h
      rw [Bool.and_eq_true] at h
      exact Nat.le_succ_of_le (labB_size h.1)
theorem kindW_size (k : Int) : (kindW k).size ≤ 91 := by unfold kindW; split <;> decide
theorem parts_size {c : Ct} (hc : ruleE (ctT c) = 0) : ∀ w ∈ partsI c, w.size ≤ 91 := by
  obtain ⟨hn, _, _, _, hd, hv⟩ := ruleE_ok hc
  obtain ⟨k, name, deps, vis⟩ := c
  simp only [ctT] at hn hd hv
  have hopt : ∀ (t : ByteArray) (l : List ByteArray), t.size ≤ 91 → (∀ x ∈ l, x.size ≤ 91) → ∀ w ∈ optP t l, w.size ≤ 91 := fun t l ht hl w hw => by
    unfold optP at hw
    split at hw
    · cases hw
    · rcases List.mem_cons.1 hw with rfl | hw
      · exact ht
      · exact hl w hw
  intro w hw
  simp only [partsI, List.mem_cons, List.mem_append] at hw
  rcases hw with rfl | rfl | hw | hw
  · exact kindW_size k
  · exact Nat.le_succ_of_le (freB_size hn)
  · refine hopt _ _ (by decide) (fun x hx => ?_) w hw
    have := elE_ok hd x hx
    unfold frlB at this
    rw [Bool.and_eq_true] at this
    exact Nat.le_succ_of_le (labB_size this.1)
  · exact hopt _ _ (by decide) (fun x hx => viewB_size (elE_ok hv x hx)) w hw
theorem optP_len (t : ByteArray) (l : List ByteArray) : (optP t l).length ≤ l.length + 1 := by
  unfold optP; split
  · exact Nat.zero_le _
  · simp
theorem parts_len {c : Ct} (hc : ruleE (ctT c) = 0) : (partsI c).length ≤ 44 := by
  obtain ⟨_, h1, h2, _⟩ := ruleE_ok hc
  obtain ⟨k, name, deps, vis⟩ := c
  simp only [ctT] at h1 h2
  have h3 := optP_len depsW deps
  have h4 := optP_len visibleW vis
  simp only [partsI, List.length_cons, List.length_append]
  omega
theorem txtW_app (l m : List (ByteArray × UInt8)) : txtW (l ++ m) = txtW l ++ txtW m := by simp [txtW]
theorem txtW_len {m : Nat} : ∀ (l : List (ByteArray × UInt8)), (∀ p ∈ l, p.1.size ≤ m) → (txtW l).length ≤ l.length * (m + 1)
  | [], _ => Nat.zero_le _
  | p :: l, h => by
    have ih := txtW_len l (fun q hq => h q (by simp [hq]))
    have h1 := h p (by simp)
    have e : txtW (p :: l) = bl p.1 ++ [p.2] ++ txtW l := rfl
    rw [e, List.length_append, List.length_append, bl_len, List.length_singleton, List.length_cons, Nat.add_mul]
    omega
theorem seps_len {c : Ct} (hc : ruleE (ctT c) = 0) : (txtW (sepsW c)).length ≤ 4140 := by
  have h1 := txtW_len (m := 91) (sepsW c) (fun p hp => by
    unfold sepsW at hp
    rcases List.mem_append.1 hp with hp | hp
    · obtain ⟨w, hw, rfl⟩ := List.mem_map.1 hp
      exact parts_size hc w hw
    · rw [List.mem_singleton.1 hp]; decide)
  have h2 := parts_len hc
  have h3 : (sepsW c).length ≤ 45 := by
    unfold sepsW
    rw [List.length_append, List.length_map, List.length_singleton]; omega
  exact Nat.le_trans h1 (Nat.mul_le_mul_right 92 h3)
theorem rules_len : ∀ {cs : List Ct}, (∀ c ∈ cs, ruleE (ctT c) = 0) → (txtW (cs.flatMap sepsW)).length ≤ cs.length * 4140
  | [], _ => Nat.zero_le _
  | c :: cs, h => by
    have ih := rules_len (cs := cs) (fun d hd => h d (by simp [hd]))
    have h1 := seps_len (h c (by simp))
    rw [List.flatMap_cons, txtW_app, List.length_append, List.length_cons, Nat.add_mul]
    omega
def spW : ByteArray := ⟨#[32]⟩
def nlW : ByteArray := ⟨#[10]⟩
theorem line_txt (c : Ct) : bl (joinB (partsI c ++ [semiW]) spW ++ nlW) = txtW (sepsW c) := by
  rw [bl_cat, bl_join]
  exact inter_txt (partsI c) semiW
theorem parts_eq (c : Ct) : [kindW c.1, c.2.1] ++ optP depsW c.2.2.1 ++ optP visibleW c.2.2.2 = partsI c := by simp [partsI]
theorem join_size {c : Ct} (hc : ruleE (ctT c) = 0) : (joinB (partsI c ++ [semiW]) spW).size ≤ 4140 := by
  have h1 := seps_len hc
  rw [← line_txt, bl_len, ByteArray.size_append] at h1
  omega
end Go.Proofs.YtddlohbhchjjhaaGreatDoor

namespace Go.Proofs.YtddlohbhchjjhaaGreatDoor
open Go.RowKit

section
variable {P : Program} {w : World} {base size n c : Nat} {e : TypeId} {A : Option Addr} {xs : List Value}
theorem step_append_apd {ops : Array Oper} {o : Oper} {a : Act} {K : Act → World → Prop} {Q : Exit → Act → World → Prop} {E : Prop} (hgd : o.guard = none) (s x : Operand) (t : TypeId)
    (ho : o.op = .call { callee := .builtin .append, args := #[s, x], argTypes := #[t, t] })
    (base : Nat) (e : TypeId) (i : TypeInfo) (z : Value) (size bytes : Nat) (ht : P.underlying t = some (.slice e)) (hi : P.info? e = some i) (hz : i.zero = some z)
    (hsize : i.size = size) (hby : i.bytes = bytes) (hzs : z.cells.size = size) (hsz : 0 < size)
    (A : Option Addr) (n c : Nat) (xs : List Value) (hs : a.eval s = .slice A n c) (hown : Apd w base e size A n c xs)
    (B : Nat) (A' : Option Addr) (m c' : Nat) (ys : List Value) (hx : a.eval x = .slice A' m c') (hsl : Sl w B size A' m ys) (h1 : ∀ u ∈ ys, u.oneCell' = true)
    (h63 : n + m ≤ maxLen) (hbytes : (n + m) * bytes ≤ 140737488355328) (hbase : base ≤ w.heap.size)
    (h : ∀ A2 c2 w', Apd w' base e size A2 (n + m) c2 (xs ++ ys) → Below base w w' → n + m ≤ c2 → c2 ≤ maxLen → K (a.put o.dst (.slice A2 (n + m) c2)) w') :
    if Region.wanted o (yielded ops a.tmps) = true then Oper.wp P o a w K Q else E := by
  have hw : Region.wanted o (yielded ops a.tmps) = true := by simp [Region.wanted, hgd]
  rw [if_pos hw]
  obtain ⟨A2, c2, w', hr, ho', hg, hc1, hc2, _⟩ := run_append_apd (P := P) t o.type i z bytes ht hi hz hsize hby hzs hsz hown (c' := c') hsl h1 h63 hbytes hbase
  unfold Oper.wp
  simp [execOp, ho, resolve, invoke, builtin, hs, hx, hr, Result.andThen]
  exact h A2 c2 w' ho' hg hc1 hc2
end
end Go.Proofs.YtddlohbhchjjhaaGreatDoor

namespace Go.Proofs.YtddlohbhchjjhaaGreatDoor
open Go.RowKit Go.Shelf Go.Maps

theorem isBuilder_below {B b : Nat} {bs : List Value} {W W' : World} (h : Lib.IsBuilder 108 5 B b bs W) (hb : Below W.heap.size W W') : Lib.IsBuilder 108 5 B b bs W' := by
  have one : ∀ p, Lib.BuilderAt 108 5 B b p bs W → Lib.BuilderAt 108 5 B b p bs W' := by
    rintro p ⟨hB, v', hbk, hown, hne⟩
    have key : ∀ (k : Nat) (o : Obj), W.heap[k]? = some o → W'.heap[k]? = some o := fun k o hk => (hb.block k (Array.getElem?_eq_some_iff.1 hk).1).trans hk
    refine ⟨hB, v', key _ _ hbk, ⟨hown.1, ?_⟩, hne⟩
    rcases hown.2 with h0 | ⟨g, cap, cur, hv, h1, hh, h2⟩
    · exact .inl h0
    · exact .inr ⟨g, cap, cur, hv, h1, key _ _ hh, h2⟩
  rcases h with h | h
  · exact .inl (one _ h)
  · exact .inr (one _ h)
theorem byteCells_app (a b : Bytes) : Lib.byteCells a ++ Lib.byteCells b = Lib.byteCells (a ++ b) := by simp [Lib.byteCells]
structure PwS (wr : World) (r : Tg) (l : List ByteArray) (W : World) (A : Option Addr) (n c : Nat) : Prop where
  a : Apd W (wr.heap.size + 1) 9 1 A n c (strs l)
  le : n ≤ c
  max : c ≤ maxLen
  box : Bk W wr.heap.size 60 #[.int .i64 r.kind, .string r.lab, .slice r.dA r.dn r.dc, .slice r.vA r.vn r.vc]
  below : Below wr.heap.size wr W
def PwV (wr : World) (r : Tg) (l : List ByteArray) (q : Value) (W : World) : Prop := ∃ A n c, q = .slice A n c ∧ PwS wr r l W A n c
theorem PwS.lt {wr W : World} {r : Tg} {l : List ByteArray} {A : Option Addr} {n c : Nat} (h : PwS wr r l W A n c) : wr.heap.size < W.heap.size := h.box.lt
theorem PwS.len {wr W : World} {r : Tg} {l : List ByteArray} {A : Option Addr} {n c : Nat} (h : PwS wr r l W A n c) : l.length = n := by
  have := h.a.sl.1; rw [strs_len] at this; omega
def PriEnd (rs : List Tg) (w : World) (e : Ending) (w' : World) : Prop :=
  ∃ s err, e = .returned (.tuple #[.string s, .int .i64 err]) ∧ (err = 0 → checkE rs = 0 ∧ bl s = txtW ((rs.map ct).flatMap sepsW)) ∧ Below w.heap.size w w'
theorem slOne (w : World) (s : ByteArray) : Sl (w.alloc (.cells #[.string s] 9)) (w.heap.size + 1) 1 (some ⟨w.heap.size, 0, none⟩) 1 [.string s] :=
  ⟨rfl, fun _ => ⟨w.heap.size, 0, rfl, Nat.lt_succ_self _, fun j u hu => by have := new_cell w 9 s j u hu; rw [Addr.add_lit] at this; exact this⟩⟩
theorem own_bk2 {w : World} {g base : Nat} {a b : ByteArray} (h : Bk w g 9 #[.string a, .string b]) (hb : base ≤ g) : w.ownsRow base 9 1 (.slice (some ⟨g, 0, none⟩) 2 2) 2 (strs [a, b]) :=
  ⟨rfl, .inr ⟨g, 2, #[.string a, .string b], rfl, hb, h, Nat.le_refl _, by decide, rfl, rfl⟩⟩
theorem PwS.base {wr W : World} {r : Tg} {l : List ByteArray} {A : Option Addr} {n c : Nat} (h : PwS wr r l W A n c) : wr.heap.size + 1 ≤ W.heap.size := h.lt

set_option maxRecDepth 100000 in
set_option maxHeartbeats 16000000 in
theorem print_any (A : Option Addr) (n c B : Nat) (rs : List Tg) (w : World) (h : Sl w B 4 A n (flat rlC rs)) (hok : ∀ t ∈ rs, TgOk w B t) (hB : B ≤ w.heap.size) (hn : n ≤ c) (hc : c ≤ maxLen) :
    Calls Tryz.prog 41 #[.slice A n c] w (PriEnd rs w) := by
  have HL := Lib.hid (h.len rlC_len (by omega))
  have HCK := Lib.hid (check_g A n c B rs w h hok hB hn hc)
  have H0 := Lib.hid h; have HOK := Lib.hid hok
  clear h hok
  obtain ⟨i0, hi, hz0, hz1, hz2⟩ := info_parts infoStr
  have Hi := Lib.hid hi; have Hz0 := Lib.hid hz0; have Hz1 := Lib.hid hz1; have Hz2 := Lib.hid hz2
  clear hi hz0 hz1 hz2
  obtain ⟨ck, hck⟩ : ∃ ck, checkE rs = ck := ⟨_, rfl⟩
  rw [hck] at HCK
  go_enter Tryz.func41, Tryz.ntmps41
  go_wp2_with fail
  refine HCK.out.mono ?_
  rintro e w1 ⟨rfl, hb1⟩
  by_cases he : ck = 0
  rotate_left
  · have he' : (ck != 0) = true := by simpa using he
    have HE : Hid (ck ≠ 0) := he
    clear he hck
    go_wp2_with fail
    go_ret2
    exact ⟨_, _, rfl, fun h => absurd h HE.out, hb1⟩
  subst he
  have HB1 := Lib.hid hb1
  have hru := checkE_ok hck
  have hn100 : n ≤ 100 := by rw [← HL.out]; exact hru.1
  have HRU := Lib.hid hru.2
  have HCE := Lib.hid hck
  obtain ⟨W2, hW2⟩ : ∃ W2, w1.alloc (.cells #[.pointer none, .slice none 0 0] 108) = W2 := ⟨_, rfl⟩
  have HB2 : Hid (Below w1.heap.size w1 W2) := by rw [← hW2]; exact (Below.refl _ w1).alloc (Nat.le_refl _) _
  have zW2 : W2.heap.size = w1.heap.size + 1 := by rw [← hW2]; simp
  have HK2 : Hid (Lib.IsBuilder 108 5 w1.heap.size w1.heap.size (Lib.byteCells (txtW (((rs.take 0).map ct).flatMap sepsW))) W2) := by
    rw [← hW2]
    refine .inl ⟨Nat.le_refl _, .slice none 0 0, ?_, World.ownsRow_nil _ _ _ _, by simp [Value.ownBlock]⟩
    exact (Bk.new w1 108 #[.pointer none, .slice none 0 0])
  clear hck hru hb1 HCK
  go_wp2_with fail
  clear hW2
  go_loopw [16] (fun i wr => ∃ k : Nat, k ≤ n ∧ i = .int .i64 k ∧ Hid (Lib.IsBuilder 108 5 w1.heap.size w1.heap.size (Lib.byteCells (txtW (((rs.take k).map ct).flatMap sepsW))) wr) ∧ Hid (Below w1.heap.size w1 wr) ∧ w1.heap.size < wr.heap.size) (fun i _ => n - (intOf i).toNat)
  case atStart => exact ⟨0, Nat.zero_le _, rfl, HK2.out, HB2.out, by omega⟩
  case round =>
    obtain ⟨k, hk, rfl, hKB, hBel, hzr⟩ := hrel
    have HBw : Hid (Below w.heap.size w wr) := HB1.out.trans (hBel.out.mono HB1.out.size)
    by_cases hlt : k < n
    · obtain ⟨b, off, r, rfl, hbB, hr, y0, y1, y2, y3⟩ := (H0.out.below HBw.out hB).rl hlt
      have hlz : (k : Int) < (n : Int) := by omega
      have hrm := List.mem_of_getElem? hr
      have hru := HRU.out r hrm
      have HRE : Hid (ruleE (ctT (ct r)) = 0) := hru
      obtain ⟨hfn, hd20, hv20, hkd, _, _⟩ := ruleE_ok hru
      have hls := freB_size hfn
      have hT := (HOK.out r hrm).below HBw.out hB
      have hwz := HBw.out.size
      have HD : Hid (Sl wr wr.heap.size 1 r.dA r.dn (strs r.deps)) := hT.d.more (by omega)
      have HV : Hid (Sl wr wr.heap.size 1 r.vA r.vn (strs r.vis)) := hT.v.more (by omega)
      have hdl2 := hT.dlen; have hdl3 := hT.vlen
      have HTX : Hid (((rs.take (k + 1)).map ct).flatMap sepsW = ((rs.take k).map ct).flatMap sepsW ++ sepsW (ct r)) := by
        show _ = _; rw [take_snoc hr, List.map_append, List.flatMap_append]; simp
      have hlen : (txtW (((rs.take k).map ct).flatMap sepsW)).length ≤ 414000 := by
        have h1 := rules_len (cs := (rs.take k).map ct) (fun c hc => by
          obtain ⟨x, hx, rfl⟩ := List.mem_map.1 hc
          exact HRU.out x (List.mem_of_mem_take hx))
        rw [List.length_map, List.length_take] at h1
        have h2 : min k rs.length ≤ 100 := by omega
        exact Nat.le_trans h1 (Nat.mul_le_mul_right _ h2)
      obtain ⟨wb, hwb⟩ : ∃ wb, wr.alloc (.cells #[.int .i64 r.kind, .string r.lab, .slice r.dA r.dn r.dc, .slice r.vA r.vn r.vc] 60) = wb := ⟨_, rfl⟩
      have HKb : Hid (Bk wb wr.heap.size 60 #[.int .i64 r.kind, .string r.lab, .slice r.dA r.dn r.dc, .slice r.vA r.vn r.vc]) := by rw [← hwb]; exact Bk.new wr _ _
      have zwb : wb.heap.size = wr.heap.size + 1 := by rw [← hwb]; simp
      have HBb : Hid (Below wr.heap.size wr wb) := by rw [← hwb]; exact (Below.refl _ wr).alloc (Nat.le_refl _) _
      obtain ⟨w3, hw3⟩ : ∃ w3, wb.alloc (.cells #[.string libW, .string r.lab] 9) = w3 := ⟨_, rfl⟩
      have HXb : Hid (Bk w3 (wr.heap.size + 1) 9 #[.string libW, .string r.lab]) := by rw [← hw3]; have := Bk.new wb 9 #[.string libW, .string r.lab]; rwa [zwb] at this
      have HK3 : Hid (Bk w3 wr.heap.size 60 #[.int .i64 r.kind, .string r.lab, .slice r.dA r.dn r.dc, .slice r.vA r.vn r.vc]) := by rw [← hw3]; exact HKb.out.alloc _
      have HB3 : Hid (Below wr.heap.size wr w3) := by rw [← hw3]; exact HBb.out.alloc (by omega) _
      have zw3 : w3.heap.size = wr.heap.size + 2 := by rw [← hw3]; simp [zwb]
      have b1 := HKb.out.cell 1; have z0 := HK3.out.cell 0
      simp at b1 z0
      unfold libW at hw3
      rw [← hwb] at b1
      rw [← hw3, ← hwb] at z0
      have HWb := Lib.hid hwb; have HW3 := Lib.hid hw3
      clear hr hru hT hfn hwb hw3
      go_upto_if 25 with fail
      rw [HWb.out, HW3.out]
      clear b1 z0 y0 y1 y2 y3
      go_cut [8] from 26 to 27 (fun q wx => PwV wr r [kindW r.kind, r.lab] q wx)
      case first =>
        have f0 := HXb.out.free 0
        have x0 := HXb.out.cell 0
        simp at x0
        by_cases hk2 : r.kind = 2
        · have HKW : Hid (kindW r.kind = testW) := if_pos hk2
          have hkb : (r.kind == 2) = true := by simp [hk2]
          clear hk2 hkd
          go_wp2_with fail
          go_meet
          rw [HKW.out]
          have hx := HXb.out.set 0 (.string testW)
          simp at hx
          exact ⟨_, _, _, rfl, .inl (own_bk2 hx (Nat.le_refl _)), Nat.le_refl _, by decide, HK3.out.far (by show wr.heap.size ≠ wr.heap.size + 1; omega) _, HB3.out.setCell (by show wr.heap.size ≤ wr.heap.size + 1; omega) _⟩
        · have HKW : Hid (kindW r.kind = libW) := if_neg hk2
          have hkb : (r.kind == 2) = false := by simp [hk2]
          clear hk2 hkd
          go_wp2_with fail
          go_meet
          rw [HKW.out]
          exact ⟨_, _, _, rfl, .inl (own_bk2 HXb.out (Nat.le_refl _)), Nat.le_refl _, by decide, HK3.out, HB3.out⟩
      case rest =>
        obtain ⟨Ap, np, cp, rfl, hcp⟩ := hcut
        obtain ⟨wq, hww⟩ : ∃ W, W = wc := ⟨_, rfl⟩
        subst hww
        obtain ⟨l, hl⟩ : ∃ l, [kindW r.kind, r.lab] = l := ⟨_, rfl⟩
        rw [hl] at hcp
        have hll : l.length = 2 := by rw [← hl]; rfl
        have HP := Lib.hid hcp
        clear hcp HWb HW3 HXb HK3 HB3 HKb HBb
        have z2 := HP.out.box.cell 2
        simp at z2
        have hnp := HP.out.len
        have hwq := HP.out.lt
        have KS : Hid (∀ W, Below (wr.heap.size + 1) wq W → W.cell? ⟨wr.heap.size, 2, none⟩ = some (.slice r.dA r.dn r.dc)) := fun W h => by have g := (HP.out.box.below h (Nat.lt_succ_self _)).cell 2; simpa using g
        go_upto_if 31 with fail
        go_cut [8] from 31 to 37 (fun q wx => PwV wr r (l ++ optP depsW r.deps) q wx)
        case first =>
          by_cases hz : r.deps = []
          · have HOP : Hid (l ++ optP depsW r.deps = l) := by show _ = _; rw [hz]; exact List.append_nil _
            have h0 : (r.deps).length = 0 := by rw [hz]; rfl
            have hn0 : ¬ 0 < r.dn := by omega
            clear hz h0
            go_wp2_with fail
            go_meet
            rw [HOP.out]
            exact ⟨_, _, _, rfl, HP.out⟩
          · have HOP : Hid (l ++ optP depsW r.deps = l ++ [depsW] ++ r.deps) := by show _ = _; rw [optP, if_neg hz]; simp
            have hn0 : 0 < r.dn := by have := List.length_pos_iff.2 hz; omega
            clear hz
            go_wp2_with fail
            go_region_held3 (fun w' => w'.cell? ⟨wr.heap.size, 2, none⟩ = some (.slice r.dA r.dn r.dc))
              (first | exact z2 | exact KS.out _ QB7.out | exact KS.out _ QB5.out | exact KS.out _ ((Below.refl _ _).alloc (by omega) _) | exact KS.out _ ((Below.refl _ _).drew.alloc (by omega) _) | exact KS.out _ (Below.refl _ _).drew | go_keep)
              (first
                | (refine step_append_apd (by rfl) (.tmp 32) (.tmp 33) 33 (by rfl) (wr.heap.size + 1) 9 i0 _ 1 16 Tryz.underlying33 Hi.out Hz0.out Hz1.out Hz2.out rfl (by decide) Ap np cp (strs l) (by rfl) (HP.out.a.below (by first | exact (Below.refl _ _).alloc (Nat.le_refl _) _ | exact ((Below.refl _ _).alloc (Nat.le_refl _) _).drew | exact (Below.refl _ _).drew.alloc (by simp) _)) (wq.heap.size + 1) (some ⟨wq.heap.size, 0, none⟩) 1 1 [.string depsW] (by rfl) (slOne wq _) (by simp [Value.oneCell']) (by unfold maxLen; omega) (by omega) (by simp <;> omega) ?_
                   intro A5 c5 w5 a5 hb5 hn5 hm5
                   have Q5 : Hid (Apd w5 (wr.heap.size + 1) 9 1 A5 (np + 1) c5 (strs (l ++ [depsW]))) := by show Apd _ _ _ _ _ _ _ _; rw [strs_app]; exact a5
                   have QB5 : Hid (Below (wr.heap.size + 1) wq w5) := Below.trans (by first | exact (Below.refl _ wq).alloc (by omega) _ | exact ((Below.refl _ wq).alloc (by omega) _).drew | exact (Below.refl _ wq).drew.alloc (by simp; omega) _) hb5
                   clear a5 hb5 hn5 hm5)
                | (refine step_append_apd (by rfl) (.tmp 34) (.tmp 36) 33 (by rfl) (wr.heap.size + 1) 9 i0 _ 1 16 Tryz.underlying33 Hi.out Hz0.out Hz1.out Hz2.out rfl (by decide) A5 (np + 1) c5 (strs (l ++ [depsW])) (by rfl) Q5.out wr.heap.size r.dA r.dn r.dc (strs r.deps) (by rfl) (HD.out.below (HP.out.below.trans (QB5.out.mono (by omega))) (Nat.le_refl _)) (strs_one _) (by unfold maxLen; omega) (by omega) (by have := QB5.out.size; omega) ?_
                   intro A7 c7 w7 a7 hb7 hn7 hm7
                   have Q7 : Hid (Apd w7 (wr.heap.size + 1) 9 1 A7 (np + 1 + r.dn) c7 (strs (l ++ [depsW] ++ r.deps))) := by show Apd _ _ _ _ _ _ _ _; rw [strs_app (l ++ [depsW])]; exact a7
                   have QB7 : Hid (Below (wr.heap.size + 1) wq w7) := QB5.out.trans hb7
                   have HN7 : Hid (np + 1 + r.dn ≤ c7 ∧ c7 ≤ maxLen) := ⟨hn7, hm7⟩
                   clear a7 hb7 hn7 hm7))
            all_goals
              (simp only [Exit.then]
               go_step
               go_meet
               rw [HOP.out]
               exact ⟨A7, np + 1 + r.dn, c7, by first | rfl | simp, Q7.out, HN7.out.1, HN7.out.2, HP.out.box.below QB7.out (Nat.lt_succ_self _), HP.out.below.trans (QB7.out.mono (Nat.le_succ _))⟩)
        case rest =>
          obtain ⟨Ap, np, cp, rfl, hcp⟩ := hcut
          obtain ⟨wq, hww⟩ : ∃ W, W = wc := ⟨_, rfl⟩
          subst hww
          have HL' := Lib.hid hl
          obtain ⟨l', hl'⟩ : ∃ l', l ++ optP depsW r.deps = l' := ⟨_, rfl⟩
          rw [hl'] at hcp
          have HP := Lib.hid hcp
          have lenA : l'.length ≤ 23 := by rw [← hl', List.length_append]; have := optP_len depsW r.deps; omega
          clear hcp z2 KS hwq hnp hll
          have z2 := HP.out.box.cell 3
          simp at z2
          have hnp := HP.out.len
          have hwq := HP.out.lt
          have KS : Hid (∀ W, Below (wr.heap.size + 1) wq W → W.cell? ⟨wr.heap.size, 3, none⟩ = some (.slice r.vA r.vn r.vc)) := fun W h => by have g := (HP.out.box.below h (Nat.lt_succ_self _)).cell 3; simpa using g
          go_upto_if 41 with fail
          go_cut [8] from 41 to 47 (fun q wx => PwV wr r (l' ++ optP visibleW r.vis) q wx)
          case first =>
            by_cases hz : r.vis = []
            · have HOP : Hid (l' ++ optP visibleW r.vis = l') := by show _ = _; rw [hz]; exact List.append_nil _
              have h0 : (r.vis).length = 0 := by rw [hz]; rfl
              have hn0 : ¬ 0 < r.vn := by omega
              clear hz h0
              go_wp2_with fail
              go_meet
              rw [HOP.out]
              exact ⟨_, _, _, rfl, HP.out⟩
            · have HOP : Hid (l' ++ optP visibleW r.vis = l' ++ [visibleW] ++ r.vis) := by show _ = _; rw [optP, if_neg hz]; simp
              have hn0 : 0 < r.vn := by have := List.length_pos_iff.2 hz; omega
              clear hz
              go_wp2_with fail
              go_region_held3 (fun w' => w'.cell? ⟨wr.heap.size, 3, none⟩ = some (.slice r.vA r.vn r.vc))
                (first | exact z2 | exact KS.out _ QB7.out | exact KS.out _ QB5.out | exact KS.out _ ((Below.refl _ _).alloc (by omega) _) | exact KS.out _ ((Below.refl _ _).drew.alloc (by omega) _) | exact KS.out _ (Below.refl _ _).drew | go_keep)
                (first
                  | (refine step_append_apd (by rfl) (.tmp 42) (.tmp 43) 33 (by rfl) (wr.heap.size + 1) 9 i0 _ 1 16 Tryz.underlying33 Hi.out Hz0.out Hz1.out Hz2.out rfl (by decide) Ap np cp (strs l') (by rfl) (HP.out.a.below (by first | exact (Below.refl _ _).alloc (Nat.le_refl _) _ | exact ((Below.refl _ _).alloc (Nat.le_refl _) _).drew | exact (Below.refl _ _).drew.alloc (by simp) _)) (wq.heap.size + 1) (some ⟨wq.heap.size, 0, none⟩) 1 1 [.string visibleW] (by rfl) (slOne wq _) (by simp [Value.oneCell']) (by unfold maxLen; omega) (by omega) (by simp <;> omega) ?_
                     intro A5 c5 w5 a5 hb5 hn5 hm5
                     have Q5 : Hid (Apd w5 (wr.heap.size + 1) 9 1 A5 (np + 1) c5 (strs (l' ++ [visibleW]))) := by show Apd _ _ _ _ _ _ _ _; rw [strs_app]; exact a5
                     have QB5 : Hid (Below (wr.heap.size + 1) wq w5) := Below.trans (by first | exact (Below.refl _ wq).alloc (by omega) _ | exact ((Below.refl _ wq).alloc (by omega) _).drew | exact (Below.refl _ wq).drew.alloc (by simp; omega) _) hb5
                     clear a5 hb5 hn5 hm5)
                  | (refine step_append_apd (by rfl) (.tmp 44) (.tmp 46) 33 (by rfl) (wr.heap.size + 1) 9 i0 _ 1 16 Tryz.underlying33 Hi.out Hz0.out Hz1.out Hz2.out rfl (by decide) A5 (np + 1) c5 (strs (l' ++ [visibleW])) (by rfl) Q5.out wr.heap.size r.vA r.vn r.vc (strs r.vis) (by rfl) (HV.out.below (HP.out.below.trans (QB5.out.mono (by omega))) (Nat.le_refl _)) (strs_one _) (by unfold maxLen; omega) (by omega) (by have := QB5.out.size; omega) ?_
                     intro A7 c7 w7 a7 hb7 hn7 hm7
                     have Q7 : Hid (Apd w7 (wr.heap.size + 1) 9 1 A7 (np + 1 + r.vn) c7 (strs (l' ++ [visibleW] ++ r.vis))) := by show Apd _ _ _ _ _ _ _ _; rw [strs_app (l' ++ [visibleW])]; exact a7
                     have QB7 : Hid (Below (wr.heap.size + 1) wq w7) := QB5.out.trans hb7
                     have HN7 : Hid (np + 1 + r.vn ≤ c7 ∧ c7 ≤ maxLen) := ⟨hn7, hm7⟩
                     clear a7 hb7 hn7 hm7))
              all_goals
                (simp only [Exit.then]
                 go_step
                 go_meet
                 rw [HOP.out]
                 exact ⟨A7, np + 1 + r.vn, c7, by first | rfl | simp, Q7.out, HN7.out.1, HN7.out.2, HP.out.box.below QB7.out (Nat.lt_succ_self _), HP.out.below.trans (QB7.out.mono (Nat.le_succ _))⟩)
          case rest =>
            obtain ⟨Ap, np, cp, rfl, hcp⟩ := hcut
            obtain ⟨wq, hww⟩ : ∃ W, W = wc := ⟨_, rfl⟩
            subst hww
            have HL'' := Lib.hid hl'
            obtain ⟨l'', hl''⟩ : ∃ l'', l' ++ optP visibleW r.vis = l'' := ⟨_, rfl⟩
            rw [hl''] at hcp
            have HP := Lib.hid hcp
            have lenB : l''.length ≤ 44 := by rw [← hl'', List.length_append]; have := optP_len visibleW r.vis; omega
            clear hcp z2 KS hwq hnp lenA
            have hnp := HP.out.len
            have hwq := HP.out.lt
            have HLL : Hid (l'' = partsI (ct r)) := by
              show _ = _
              rw [← hl'', ← HL''.out, ← HL'.out]
              exact parts_eq (ct r)
            have HJS : Hid ((joinB (l'' ++ [semiW]) spW).size ≤ 4140) := by
              show _ ≤ _
              rw [HLL.out]
              exact join_size HRE.out
            have HLN : Hid (bl (joinB (l'' ++ [semiW]) spW ++ nlW) = txtW (sepsW (ct r))) := by
              show _ = _
              rw [HLL.out]
              exact line_txt (ct r)
            clear hl'' hl'
            go_wp2_with (at_builtin; refine halt_ ?_)
            refine unhalt ?_
            refine wpList_append_apd (base := wr.heap.size + 1) (size := 1) _ rfl (.tmp 48) (.tmp 49) 33 rfl 9 i0 _ 16 Tryz.underlying33 Hi.out Hz0.out Hz1.out Hz2.out rfl (by decide) Ap np cp (strs l'') rfl ?own_1 (wq.heap.size + 1) _ 1 _ [.string semiW] rfl ?nw_1 (by simp [Value.oneCell']) ?m1_1 ?m2_1 ?m3_1 ?_
            case own_1 => exact HP.out.a.below ((Below.refl _ wq).alloc (Nat.le_refl _) _)
            case nw_1 => exact slOne wq _
            case m1_1 => unfold maxLen; omega
            case m2_1 => omega
            case m3_1 => simp; omega
            intro A9 c9 w9 a9 hb9 hn9 hm9 _
            have HS9 : Hid (Sl w9 w9.heap.size 1 A9 (np + 1) (strs (l'' ++ [semiW]))) := by show Sl _ _ _ _ _ _; rw [strs_app]; exact a9.sl
            have HB9 : Hid (Below wr.heap.size wr w9) := HP.out.below.trans (((Below.refl _ wq).alloc (Nat.le_of_lt hwq) _).trans (hb9.mono (Nat.le_succ _)))
            have HJN := Lib.hid (join_any' A9 (np + 1) c9 w9.heap.size (l'' ++ [semiW]) spW w9 HS9.out (Nat.le_refl _) hn9 (by omega) (by omega) (Nat.le_trans HJS.out (by decide)))
            obtain ⟨js, hjs⟩ : ∃ js, joinB (l'' ++ [semiW]) spW = js := ⟨_, rfl⟩
            rw [hjs] at HJN HJS HLN
            unfold spW at HJN
            have HJS2 := HJS.out
            have hcat : ¬ (9223372036854775807 < js.size + (⟨#[10]⟩ : ByteArray).size) := by
              have : (⟨#[10]⟩ : ByteArray).size = 1 := rfl
              omega
            clear a9 hb9 hjs
            go_wp2_with fail
            refine HJN.out.mono ?_
            rintro e w10 ⟨rfl, hb10⟩
            have hz9 := HB9.out.size
            have HB10 : Hid (Below wr.heap.size wr w10) := HB9.out.trans (hb10.mono hz9)
            have hz10 := HB10.out.size
            have HWS := Lib.hid (writeString_any w1.heap.size w1.heap.size (Lib.byteCells (txtW (((rs.take k).map ct).flatMap sepsW))) (js ++ ⟨#[10]⟩) w10 (isBuilder_below hKB.out HB10.out) (by rw [byteCells_len, ByteArray.size_append]; have : (⟨#[10]⟩ : ByteArray).size = 1 := rfl; omega) (by omega))
            have HBY : Hid (Lib.byteCells (txtW (((rs.take k).map ct).flatMap sepsW)) ++ Lib.strCells (js ++ ⟨#[10]⟩) = Lib.byteCells (txtW (((rs.take (k + 1)).map ct).flatMap sepsW))) := by
              show _ = _
              have h2 : Lib.strCells (js ++ ⟨#[10]⟩) = Lib.byteCells (txtW (sepsW (ct r))) := by rw [← HLN.out]; rfl
              rw [HTX.out, txtW_app, h2, byteCells_app]
            rw [HBY.out] at HWS
            clear hb10 HJN hnp lenB hwq
            go_wp2_with fail
            refine HWS.out.mono ?_
            rintro e w11 ⟨rfl, k11, hb11, _⟩
            have K11 := Lib.hid k11
            have HB11 : Hid (Below w1.heap.size w1 w11) := hBel.out.trans ((HB10.out.mono (by omega)).trans hb11)
            have hz11 := hb11.size
            clear k11 hb11 HWS
            go_wp2_with fail
            go_roundw
            case rel => exact ⟨k + 1, hlt, by go_num, .inr K11.out, HB11.out, by omega⟩
            case measure => simp [intOf]; omega

    · have hlz : ¬ (k : Int) < (n : Int) := by omega
      have HST := Lib.hid (Tryz.Builder_String_any w1.heap.size w1.heap.size (txtW (((rs.take k).map ct).flatMap sepsW)) wr hKB.out (by omega))
      rw [List.take_of_length_le (by rw [HL.out]; omega)] at HST
      obtain ⟨tx, htx⟩ : ∃ tx, txtW ((rs.map ct).flatMap sepsW) = tx := ⟨_, rfl⟩
      rw [htx] at HST
      have HTX := Lib.hid htx
      clear htx
      go_wp2_with fail
      refine HST.out.mono ?_
      rintro e w8 ⟨rfl, hb8⟩
      have HB8 := Lib.hid (HB1.out.trans ((hBel.out.trans (hb8.mono (Nat.le_refl _))).mono HB1.out.size)); clear hb8
      go_wp2_with fail
      go_ret2
      exact ⟨_, _, rfl, fun _ => ⟨HCE.out, HTX.out.symm⟩, HB8.out⟩
end Go.Proofs.YtddlohbhchjjhaaGreatDoor

namespace Go.Proofs.YtddlohbhchjjhaaGreatDoor
open Go.RowKit Go.Shelf

theorem splitS_cat : ∀ (a b : List UInt8), splitS (a ++ 47 :: b) = splitS a ++ splitS b
  | [], b => by simp [splitS]
  | c :: a, b => by
    have ih := splitS_cat a b
    by_cases e : c = 47
    · rw [List.cons_append, splitS, if_pos e, ih, splitS, if_pos e]; rfl
    · rw [List.cons_append, splitS, if_neg e, ih, splitS, if_neg e]
      cases hs : splitS a with
      | nil => exact absurd hs (splitS_ne a)
      | cons q t => rfl
def nmS (s : ByteArray) : ByteArray := if Lib.lastIndexByte s 47 = -1 then s else s.extract ((Lib.lastIndexByte s 47).toNat + 1) s.size
structure Spt (s d n : ByteArray) : Prop where
  joi : joiS d n = s
  dirE : d = ⟨#[]⟩ ∨ labB d = true
  nam : namT n = true
theorem namT_of {n : ByteArray} (h : labB n = true) (h47 : ∀ j : Nat, (bl n)[j]? ≠ some 47) : namT n = true := by
  unfold namT
  rw [h, Bool.true_and, Bool.not_eq_true', decide_eq_false_iff_not]
  intro hi
  obtain ⟨i, hi'⟩ : ∃ i : Nat, Lib.indexByte n.data.toList 47 = i := ⟨(Lib.indexByte n.data.toList 47).toNat, by omega⟩
  exact h47 i (Lib.indexByte_some hi').1
theorem spt_of {s : ByteArray} (h : labB s = true) : Spt s (dirS s) (nmS s) := by
  rcases Lib.lastIndexByte_spec s 47 with ⟨h1, h2⟩ | ⟨i, h1, h2, h3, h4⟩
  · have e1 : dirS s = ⟨#[]⟩ := by rw [dir_none h1, extract00]
    have e2 : nmS s = s := by unfold nmS; rw [if_pos h1]
    rw [e1, e2]
    refine ⟨if_pos rfl, .inl rfl, namT_of h fun j hj => ?_⟩
    have hjs : j < s.size := by rw [← bl_len]; exact (List.getElem?_eq_some_iff.1 hj).1
    exact h2 j hjs ((at47 hjs).2 hj)
  · have e1 : dirS s = s.extract 0 i := dir_some h2
    have e2 : nmS s = s.extract (i + 1) s.size := by unfold nmS; rw [if_neg (by omega), h2]; rfl
    have h3' := (at47 h1).1 h3
    have hbl : bl s = bl (dirS s) ++ 47 :: bl (nmS s) := by
      rw [e1, e2]
      unfold bl at h3' ⊢
      rw [extract_list, extract_list, List.drop_zero, Nat.sub_zero, List.take_of_length_le (l := List.drop (i + 1) s.data.toList) (by rw [List.length_drop, ← size_len]; exact Nat.le_refl _)]
      have hg := List.getElem?_eq_some_iff.1 h3'
      rw [← hg.2, List.getElem_cons_drop, List.take_append_drop]
    have hne : dirS s ≠ ⟨#[]⟩ := fun e => by
      rw [e] at hbl
      unfold labB labL at h
      rw [Bool.and_eq_true, List.all_eq_true] at h
      have h0 : ([] : List UInt8) ∈ splitS (bl s) := by rw [hbl]; simp [bl, splitS]
      have := h.2 [] h0
      cases this
    have hl := h
    unfold labB labL at hl
    rw [hbl, splitS_cat, Bool.and_eq_true, List.all_append, Bool.and_eq_true, decide_eq_true_eq] at hl
    simp only [List.length_append, List.length_cons] at hl
    refine ⟨?_, .inr ?_, namT_of ?_ fun j hj => ?_⟩
    · apply bl_inj; rw [bl_joi hne, ← hbl]
    · unfold labB labL; rw [hl.2.1, decide_eq_true (by omega)]; rfl
    · unfold labB labL; rw [hl.2.2, decide_eq_true (by omega)]; rfl
    · have hi : (bl (dirS s)).length = i := by rw [bl_len, e1]; simp; omega
      have hjs : (bl s)[i + 1 + j]? = some 47 := by
        rw [hbl, List.getElem?_append_right (by omega), hi, show i + 1 + j - i = j + 1 by omega, List.getElem?_cons_succ]; exact hj
      have hlt : i + 1 + j < s.size := by rw [← bl_len]; exact (List.getElem?_eq_some_iff.1 hjs).1
      exact h4 _ (by omega) hlt ((at47 hlt).2 hjs)
theorem Spt.joiE {s d n : ByteArray} (h : Spt s d n) (hs : labB s = true) : joiE d n = 0 := by
  unfold Go.Proofs.YtddlohbhchjjhaaGreatDoor.joiE
  rw [if_neg]
  · split
    · rfl
    · rename_i h1
      have e : d ++ slW ++ n = s := by have := h.joi; unfold joiS at this; rwa [if_neg h1] at this
      rw [e, hs]; rfl
  · rintro (⟨h1, h2⟩ | h1)
    · rcases h.dirE with h3 | h3
      · exact h1 h3
      · rw [h3] at h2; cases h2
    · rw [h.nam] at h1; cases h1
def gath (dirs : List ByteArray) (rules : List (List Ct)) : List Ct := (dirs.zip rules).flatMap fun p => p.2.map (jnC p.1)
structure BdP (ts : List Tg) (k : Nat) (dirs : List ByteArray) (rules : List (List Ct)) : Prop where
  nod : dirs.Nodup
  len : rules.length = dirs.length
  dir : ∀ d ∈ dirs, d = ⟨#[]⟩ ∨ labB d = true
  joi : ∀ p ∈ dirs.zip rules, ∀ c ∈ p.2, joiE p.1 c.2.1 = 0
  perm : (gath dirs rules).Perm ((ts.take k).map ct)
theorem BdP.start (ts : List Tg) : BdP ts 0 [] [] := ⟨List.nodup_nil, rfl, (fun d h => by cases h), (fun p h => by cases h), .refl _⟩
theorem flatMap_set {α β : Type} {f : α → List β} {x y : α} {z : β} (hf : f y = f x ++ [z]) : ∀ {l : List α} {j : Nat}, l[j]? = some x → ((l.set j y).flatMap f).Perm (l.flatMap f ++ [z])
  | [], j, h => by simp at h
  | a :: l, 0, h => by
    simp at h; subst h
    rw [List.set_cons_zero, List.flatMap_cons, List.flatMap_cons, hf, List.append_assoc, List.append_assoc]
    exact (List.perm_append_comm).append_left _
  | a :: l, j + 1, h => by
    rw [List.set_cons_succ, List.flatMap_cons, List.flatMap_cons, List.append_assoc]
    exact (flatMap_set hf (by simpa using h)).append_left _
theorem zip_set {α β : Type} {d : α} {r : β} : ∀ {l : List α} {m : List β} {j : Nat}, l[j]? = some d → l.zip (m.set j r) = (l.zip m).set j (d, r)
  | [], m, j, h => by simp at h
  | a :: l, [], j, h => by simp
  | a :: l, b :: m, 0, h => by simp at h; subst h; simp
  | a :: l, b :: m, j + 1, h => by simp; exact zip_set (by simpa using h)
theorem BdP.old {ts : List Tg} {k j : Nat} {dirs : List ByteArray} {rules : List (List Ct)} {t : Tg} {rs : List Ct} (h : BdP ts k dirs rules) (ht : ts[k]? = some t) (hl : labB t.lab = true)
    (hd : dirs[j]? = some (dirS t.lab)) (hr : rules[j]? = some rs) : BdP ts (k + 1) dirs (rules.set j (rs ++ [(t.kind, nmS t.lab, t.deps, t.vis)])) := by
  have hs := spt_of hl
  have hz : (dirs.zip rules)[j]? = some (dirS t.lab, rs) := by rw [List.getElem?_zip_eq_some]; exact ⟨hd, hr⟩
  refine ⟨h.nod, by rw [List.length_set]; exact h.len, h.dir, fun p hp c hc => ?_, ?_⟩
  · rw [zip_set hd] at hp
    rcases List.mem_or_eq_of_mem_set hp with hp | rfl
    · exact h.joi p hp c hc
    · rcases List.mem_append.1 hc with hc | hc
      · exact h.joi _ (List.mem_of_getElem? hz) c hc
      · rw [List.mem_singleton.1 hc]; exact hs.joiE hl
  · unfold gath
    rw [zip_set hd, take_snoc ht, List.map_append]
    refine (flatMap_set (z := ct t) ?_ hz).trans (h.perm.append_right _)
    simp [jnC, hs.joi, ct]
theorem BdP.new {ts : List Tg} {k : Nat} {dirs : List ByteArray} {rules : List (List Ct)} {t : Tg} (h : BdP ts k dirs rules) (ht : ts[k]? = some t) (hl : labB t.lab = true)
    (hd : dirS t.lab ∉ dirs) : BdP ts (k + 1) (dirs ++ [dirS t.lab]) (rules ++ [[(t.kind, nmS t.lab, t.deps, t.vis)]]) := by
  have hs := spt_of hl
  have hz : (dirs ++ [dirS t.lab]).zip (rules ++ [[(t.kind, nmS t.lab, t.deps, t.vis)]]) = dirs.zip rules ++ [(dirS t.lab, [(t.kind, nmS t.lab, t.deps, t.vis)])] := by
    rw [List.zip_append h.len.symm]; rfl
  refine ⟨?_, by simp [h.len], fun d hd => ?_, fun p hp c hc => ?_, ?_⟩
  · rw [List.nodup_append]
    exact ⟨h.nod, by simp, fun a ha b hb e => by rw [List.mem_singleton.1 hb] at e; exact hd (e ▸ ha)⟩
  · rcases List.mem_append.1 hd with hd | hd
    · exact h.dir d hd
    · rw [List.mem_singleton.1 hd]; exact hs.dirE
  · rw [hz] at hp
    rcases List.mem_append.1 hp with hp | hp
    · exact h.joi p hp c hc
    · rw [List.mem_singleton.1 hp] at hc ⊢
      rw [List.mem_singleton.1 hc]; exact hs.joiE hl
  · unfold gath
    rw [hz, take_snoc ht, List.map_append, List.flatMap_append]
    refine List.Perm.append h.perm ?_
    simp [jnC, hs.joi, ct]
def BuildF (dirs : List ByteArray) (rules : List (List Ct)) (bs : List Fl) : Prop :=
  bs.length = dirs.length ∧ ∀ (j : Nat) (d : ByteArray) (rs : List Ct) (b : Fl), dirs[j]? = some d → rules[j]? = some rs → bs[j]? = some b → b.1 = bldS d ∧ b.2.size ≤ 65536 ∧ bl b.2 = txtW (rs.flatMap sepsW) ∧ checkC rs = 0
def modF (ts : List Tg) : List Fl := ts.map fun t => (t.lab ++ pkW, ⟨#[]⟩)
theorem dir_bld (d : ByteArray) : dirS (bldS d) = d := by
  have h47 : ∀ j : Nat, (bl buildW)[j]? ≠ some 47 := fun j hj => by
    have : (47 : UInt8) ∉ bl buildW := by decide
    exact this (List.mem_of_getElem? hj)
  have := dir_cat (d := d) h47
  have e : joiS d buildW = bldS d := by
    unfold joiS bldS
    split
    · rfl
    · apply bl_inj; rw [bl_cat, bl_cat, bl_cat, List.append_assoc]; rfl
  rwa [e] at this
theorem bldB_bld (d : ByteArray) : bldB (bldS d) = true := by unfold bldB; rw [dir_bld]; simp
theorem bldB_pk (s : ByteArray) : bldB (s ++ pkW) = false := by
  unfold bldB
  rw [decide_eq_false_iff_not]
  intro e
  have h1 : (bl (s ++ pkW)).getLast? = (bl (bldS (dirS (s ++ pkW)))).getLast? := congrArg (fun x => (bl x).getLast?) e
  have h2 : (bl (s ++ pkW)).getLast? = some 107 := by rw [bl_cat, List.getLast?_append]; rfl
  have h3 : ∀ d, (bl (bldS d)).getLast? = some 68 := fun d => by
    unfold bldS
    split
    · rfl
    · rw [bl_cat, List.getLast?_append]; rfl
  rw [h2, h3] at h1
  exact absurd h1 (by decide)
open Classical in
theorem gat_of : ∀ (fs : List Fl) (g : Fl → List Ct), (∀ f ∈ fs, (bldB f.1 = false ∧ g f = []) ∨ (bldB f.1 = true ∧ LfR f (g f) 0)) → Gat fs (.inl (fs.flatMap g))
  | [], _, _ => .nil
  | f :: fs, g, h => by
    have ih := gat_of fs g (fun x hx => h x (by simp [hx]))
    rw [List.flatMap_cons]
    rcases h f (by simp) with ⟨h1, h2⟩ | ⟨h1, h2⟩
    · rw [h2]; exact .skip h1 ih
    · exact .add h1 h2 ih
theorem lfE_zero' {d : ByteArray} : ∀ {cs : List Ct}, (∀ c ∈ cs, joiE d c.2.1 = 0) → lfE d cs = 0
  | [], _ => rfl
  | c :: cs, h => by
    simp only [lfE]
    rw [if_neg (fun hn => hn (h c (by simp)))]
    exact lfE_zero' fun x hx => h x (by simp [hx])
open Classical in
theorem build_gat {ts : List Tg} {dirs : List ByteArray} {rules : List (List Ct)} {bs fs : List Fl} (h : BdP ts ts.length dirs rules) (hb : BuildF dirs rules bs) (hf : fs.Perm (modF ts ++ bs)) :
    ∃ ds, Gat fs (.inl ds) ∧ ds.Perm (ts.map ct) := by
  -- the rules of a build file
  let g : Fl → List Ct := fun f => if bldB f.1 = true then (match (dirs.zip rules).find? (fun p => decide (bldS p.1 = f.1)) with | some p => p.2.map (jnC p.1) | none => []) else []
  have hinj : ∀ {p q : ByteArray}, bldS p = bldS q → p = q := fun {p q} e => by rw [← dir_bld p, e, dir_bld]
  have hg : ∀ (j : Nat) (d : ByteArray) (rs : List Ct) (b : Fl), dirs[j]? = some d → rules[j]? = some rs → bs[j]? = some b → g b = rs.map (jnC d) := fun j d rs b h1 h2 h3 => by
    obtain ⟨e1, _⟩ := hb.2 j d rs b h1 h2 h3
    have hz : (dirs.zip rules)[j]? = some (d, rs) := by rw [List.getElem?_zip_eq_some]; exact ⟨h1, h2⟩
    show (if bldB b.1 = true then _ else _) = _
    rw [e1, if_pos (bldB_bld d)]
    have hfind : (dirs.zip rules).find? (fun p => decide (bldS p.1 = bldS d)) = some (d, rs) := by
      obtain ⟨p, hp⟩ : ∃ p, (dirs.zip rules).find? (fun p => decide (bldS p.1 = bldS d)) = some p := Option.isSome_iff_exists.1 (List.find?_isSome.2 ⟨(d, rs), List.mem_of_getElem? hz, by simp⟩)
      have hp1 := List.find?_some hp
      have hp2 := List.mem_of_find?_eq_some hp
      obtain ⟨i, hi, e⟩ := List.getElem_of_mem hp2
      have hi' : (dirs.zip rules)[i]? = some p := by rw [← e]; exact List.getElem?_eq_getElem hi
      rw [List.getElem?_zip_eq_some] at hi'
      simp only [decide_eq_true_eq] at hp1
      have e3 : p.1 = d := hinj hp1
      have e4 : i = j := by
        have a1 := List.getElem?_eq_some_iff.1 hi'.1
        have a2 := List.getElem?_eq_some_iff.1 h1
        exact (List.getElem_inj (h₀ := a1.1) (h₁ := a2.1) h.nod).1 (by rw [a1.2, a2.2, e3])
      subst e4
      rw [hp]
      have := hi'.2.symm.trans h2
      cases this
      rw [← e3]
    rw [hfind]
  have hmod : ∀ f ∈ modF ts, bldB f.1 = false ∧ g f = [] := fun f hf => by
    obtain ⟨t, _, rfl⟩ := List.mem_map.1 hf
    have := bldB_pk t.lab
    exact ⟨this, if_neg (by simp only; rw [this]; decide)⟩
  have hget : ∀ (j : Nat) (b : Fl), bs[j]? = some b → ∃ d rs, dirs[j]? = some d ∧ rules[j]? = some rs := fun j b hj => by
    have hlt := (List.getElem?_eq_some_iff.1 hj).1
    have h1 := hb.1
    have h2 := h.len
    exact ⟨_, _, List.getElem?_eq_getElem (by omega), List.getElem?_eq_getElem (by omega)⟩
  refine ⟨fs.flatMap g, gat_of fs g fun f hfm => ?_, ?_⟩
  · rcases List.mem_append.1 (hf.mem_iff.1 hfm) with hm | hm
    · exact .inl (hmod f hm)
    · obtain ⟨j, hj, e⟩ := List.getElem_of_mem hm
      have hjb : bs[j]? = some f := by rw [← e]; exact List.getElem?_eq_getElem hj
      obtain ⟨d, rs, hd, hr⟩ := hget j f hjb
      obtain ⟨e1, e2, e3, e4⟩ := hb.2 j d rs f hd hr hjb
      have hz : (d, rs) ∈ dirs.zip rules := List.mem_of_getElem? (i := j) (by rw [List.getElem?_zip_eq_some]; exact ⟨hd, hr⟩)
      refine .inr ⟨by rw [e1]; exact bldB_bld d, ?_⟩
      rw [hg j d rs f hd hr hjb]
      have hdd : dirS f.1 = d := by rw [e1]; exact dir_bld d
      refine .inr ⟨?_, rs, 0, 0, par_print e2 e3 e4, .inr (.inr ⟨rfl, ?_, ?_, rfl⟩)⟩
      · rw [hdd]
        rintro ⟨h1, h2⟩
        rcases h.dir d (List.mem_of_getElem? hd) with h3 | h3
        · exact h1 h3
        · rw [h3] at h2; cases h2
      · rw [hdd]; exact lfE_zero' fun c hc => h.joi _ hz c hc
      · rw [hdd]
  · refine (hf.flatMap_right g).trans ?_
    rw [List.flatMap_append]
    have e0 : (modF ts).flatMap g = [] := by
      rw [List.flatMap_eq_nil_iff]; exact fun f hf => (hmod f hf).2
    rw [e0, List.nil_append]
    have e1 : bs.flatMap g = gath dirs rules := by
      unfold gath
      have hl1 : bs.length = (dirs.zip rules).length := by rw [List.length_zip, h.len, Nat.min_self]; exact hb.1
      rw [List.flatMap_def, List.flatMap_def]
      congr 1
      apply List.ext_getElem (by simp [hl1])
      intro j h1 h2
      simp only [List.length_map] at h1 h2
      have hj : bs[j]? = some bs[j] := List.getElem?_eq_getElem h1
      obtain ⟨d, rs, hd, hr⟩ := hget j _ hj
      have hz : (dirs.zip rules)[j]? = some (d, rs) := by rw [List.getElem?_zip_eq_some]; exact ⟨hd, hr⟩
      have hz' := (List.getElem?_eq_some_iff.1 hz).2
      rw [List.getElem_map, List.getElem_map, hg j d rs _ hd hr hj, hz']
    rw [e1]
    have := h.perm
    rwa [List.take_of_length_le (Nat.le_refl _)] at this
theorem build_load {ts : List Tg} {dirs : List ByteArray} {rules : List (List Ct)} {bs fs : List Fl} (hv : Vld ts) (hvis : ∀ t ∈ ts, ∀ d ∈ t.deps, ∀ o, findT ts d = some o → visT o.lab o.vis t.lab = true)
    (h : BdP ts ts.length dirs rules) (hb : BuildF dirs rules bs) (hf : fs.Perm (modF ts ++ bs)) (ht : TckR fs 0) : LdR fs (ts.map ct) ⟨#[]⟩ 0 := by
  obtain ⟨ds, h1, h2⟩ := build_gat h hb hf
  have hasc : Asc ((ts.map ct).map (fun c => c.2.1)) := by
    have := hv.asc
    rw [List.map_map]; exact this
  refine ⟨0, ht, .inr ⟨rfl, .inr ⟨ds, h1, .inr ⟨by rw [h2.length_eq, List.length_map]; exact hv.few, ts.map ct, h2.symm, srt_of_asc hasc, .inr ⟨fun c hc => ?_, [], ?_, .inr ⟨rfl, rfl, rfl, rfl⟩⟩⟩⟩⟩⟩
  · obtain ⟨t, htm, rfl⟩ := List.mem_map.1 hc
    rw [nf_map]
    show ctE _ (ts.map nf) (nf t) = 0
    rw [ctE_nf]
    unfold ctE
    have hm : memB (fs.map Prod.fst) (t.lab ++ pkW) = true := by
      rw [memB_iff]
      refine List.mem_map.2 ⟨(t.lab ++ pkW, ⟨#[]⟩), hf.mem_iff.2 (List.mem_append_left _ (List.mem_map.2 ⟨t, htm, rfl⟩)), rfl⟩
    rw [if_neg (by rw [hm]; decide)]
    have key : ∀ l : List ByteArray, (∀ d ∈ l, d ∈ t.deps) → depE ts t.lab l = 0 := by
      intro l
      induction l with
      | nil => intro _; rfl
      | cons d l ih =>
        intro hl
        have hd := hl d (by simp)
        have hk := (hv.all t htm).dep d hd
        simp only [depE]
        cases hfd : findT ts d with
        | none => unfold kindOf at hk; rw [hfd] at hk; cases hk
        | some o =>
          unfold kindOf at hk
          rw [hfd] at hk
          simp only at hk ⊢
          rw [if_neg (by rw [hk]; decide), if_neg (by rw [hvis t htm d hd o hfd]; decide)]
          exact ih fun x hx => hl x (by simp [hx])
    exact key t.deps fun d hd => hd
  · rw [nf_map]; exact rcyR_nf (.inl ⟨rfl, hv.free⟩)
end Go.Proofs.YtddlohbhchjjhaaGreatDoor

namespace Go.Proofs.YtddlohbhchjjhaaGreatDoor
open Go.RowKit Go.Maps

theorem nmS_size (s : ByteArray) : (nmS s).size ≤ s.size := by
  unfold nmS
  split
  · exact Nat.le_refl _
  · simp
theorem resultsBsp {w : World} {a : Array Value} {x y z : Value} (hx : a[2]?.getD undef = x) (hy : a[3]?.getD undef = y) (hz : a[4]?.getD undef = z) : (results Tryz.f39 a).run Tryz.prog w = .ok (.tuple #[x, y, z]) w := by
  simp [results, Tryz.results39, hx, hy, hz, go_sem]
def BspEnd (s : ByteArray) (w : World) (e : Ending) (w' : World) : Prop := e = .returned (.tuple #[.string (dirS s), .string (nmS s), .int .i64 0]) ∧ Below w.heap.size w w'
set_option maxHeartbeats 1000000 in
theorem bsplit_any (s : ByteArray) (w : World) (hs : s.size ≤ 1000000) (hl : labB s = true) : Calls Tryz.prog 39 #[.string s] w (BspEnd s w) := by
  have HLB := Lib.hid (label_any s w (by unfold maxLen; omega))
  rw [hl] at HLB
  have HL := Lib.hid (fun W => Tryz.strings_LastIndexByte s 47 (by omega) W)
  clear hl
  go_enter Tryz.func39, Tryz.ntmps39
  rcases last_spec s with h | ⟨k, hk, h⟩
  · have HD : Hid (dirS s = ⟨#[]⟩) := by show _ = _; rw [dir_none h, extract00]
    have HN : Hid (nmS s = s) := if_pos h
    rw [h] at HL
    clear h
    go_wp2_with fail
    refine HLB.out.mono ?_
    rintro e w1 ⟨rfl, hb⟩
    go_wp2_with fail
    refine (HL.out w1).mono ?_
    rintro e w2 ⟨rfl, rfl⟩
    go_wp2_with fail
    exact bodyPost_ret (resultsBsp rfl rfl rfl) rfl ⟨by rw [HD.out, HN.out]; rfl, hb⟩
  · have HD : Hid (dirS s = s.extract 0 k) := dir_some h
    have HN : Hid (nmS s = s.extract (k + 1) s.size) := by show _ = _; unfold nmS; rw [if_neg (by omega), h]; rfl
    rw [h] at HL
    have h0 : ¬ (k : Int) < 0 := by omega
    have h1 : (k : Int) ≤ (s.size : Int) := by omega
    have hw : IntKind.i64.wrap ((k : Int) + 1) = ((k + 1 : Nat) : Int) := by rw [wrap_sm (by omega) (by omega)]; omega
    have h3 : ((k + 1 : Nat) : Int) ≤ (s.size : Int) := by omega
    clear h
    go_wp2_with fail
    refine HLB.out.mono ?_
    rintro e w1 ⟨rfl, hb⟩
    go_wp2_with fail
    refine (HL.out w1).mono ?_
    rintro e w2 ⟨rfl, rfl⟩
    go_wp2_with fail
    go_quiet (fail)
    go_wp2_with fail
    exact bodyPost_ret (resultsBsp rfl rfl rfl) rfl ⟨by rw [HD.out, HN.out]; rfl, below_drewN hb _⟩
end Go.Proofs.YtddlohbhchjjhaaGreatDoor

namespace Go.Proofs
open Go.Shelf
def Tryz.sortFil_ren : Go.Shelf.Ren := ⟨fun | 6 => 42 | 15 => 86 | 14 => 85 | 28 => 127 | 29 => 128 | 20 => 119 | 21 => 120 | 22 => 121 | 23 => 122 | 24 => 123 | 25 => 124 | 26 => 125 | 27 => 126 | 46 => 170 | 47 => 171 | 48 => 172 | 49 => 173 | 50 => 174 | 57 => 219 | n => n, fun | 22 => 22 | 24 => 42 | 25 => 64 | 3 => 3 | 39 => 117 | 0 => 0 | 53 => 155 | 55 => 120 | 4 => 4 | 46 => 149 | 45 => 148 | 50 => 90 | 5 => 5 | 9 => 9 | 66 => 193 | 70 => 197 | 76 => 229 | 77 => 230 | n => n, fun | n => n⟩
theorem Tryz.sortFil : Go.Proofs.SlLaysF0.n6 Tryz.prog Tryz.sortFil_ren := {
  mixed := by kernel_rfl
  f6 := ⟨Tryz.f42.name, by decide, Tryz.func42.trans (congrArg some (by kernel_rfl))⟩
  f14 := ⟨Tryz.f85.name, by decide, Tryz.func85.trans (congrArg some (by kernel_rfl))⟩
  f15 := Tryz.func86.trans (congrArg some (by kernel_rfl))
  f20 := ⟨Tryz.f119.name, by decide, Tryz.func119.trans (congrArg some (by kernel_rfl))⟩
  f21 := ⟨Tryz.f120.name, by decide, Tryz.func120.trans (congrArg some (by kernel_rfl))⟩
  f22 := ⟨Tryz.f121.name, by decide, Tryz.func121.trans (congrArg some (by kernel_rfl))⟩
  f23 := ⟨Tryz.f122.name, by decide, Tryz.func122.trans (congrArg some (by kernel_rfl))⟩
  f24 := ⟨Tryz.f123.name, by decide, Tryz.func123.trans (congrArg some (by kernel_rfl))⟩
  f25 := ⟨Tryz.f124.name, by decide, Tryz.func124.trans (congrArg some (by kernel_rfl))⟩
  f26 := ⟨Tryz.f125.name, by decide, Tryz.func125.trans (congrArg some (by kernel_rfl))⟩
  f27 := ⟨Tryz.f126.name, by decide, Tryz.func126.trans (congrArg some (by kernel_rfl))⟩
  f28 := Tryz.func127.trans (congrArg some (by kernel_rfl))
  f29 := Tryz.func128.trans (congrArg some (by kernel_rfl))
  f46 := ⟨Tryz.f170.name, by decide, Tryz.func170.trans (congrArg some (by kernel_rfl))⟩
  f47 := Tryz.func171.trans (congrArg some (by kernel_rfl))
  f48 := Tryz.func172.trans (congrArg some (by kernel_rfl))
  f49 := ⟨Tryz.f173.name, by decide, Tryz.func173.trans (congrArg some (by kernel_rfl))⟩
  f50 := ⟨Tryz.f174.name, by decide, Tryz.func174.trans (congrArg some (by kernel_rfl))⟩
  f57 := ⟨Tryz.f219.name, by decide, Tryz.func219.trans (congrArg some (by kernel_rfl))⟩
  t0 := Tryz.underlying0
  a0 := Tryz.isAgg0
  z0 := Tryz.sizeOf0
  v0 := Tryz.zeroValue0
  t3 := Tryz.underlying3
  a3 := Tryz.isAgg3
  z3 := Tryz.sizeOf3
  v3 := Tryz.zeroValue3
  t4 := Tryz.underlying4
  a4 := Tryz.isAgg4
  z4 := Tryz.sizeOf4
  v4 := Tryz.zeroValue4
  t5 := Tryz.underlying5
  a5 := Tryz.isAgg5
  z5 := Tryz.sizeOf5
  v5 := Tryz.zeroValue5
  t9 := Tryz.underlying9
  a9 := Tryz.isAgg9
  z9 := Tryz.sizeOf9
  v9 := Tryz.zeroValue9
  t22 := Tryz.underlying22
  a22 := Tryz.isAgg22
  z22 := Tryz.sizeOf22
  v22 := Tryz.zeroValue22
  t25 := Tryz.underlying64
  a25 := Tryz.isAgg64
  z25 := Tryz.sizeOf64
  v25 := Tryz.zeroValue64
  t39 := Tryz.underlying117
  a39 := Tryz.isAgg117
  z39 := Tryz.sizeOf117
  v39 := Tryz.zeroValue117
  t45 := Tryz.underlying148
  a45 := Tryz.isAgg148
  z45 := Tryz.sizeOf148
  v45 := Tryz.zeroValue148
  t46 := Tryz.underlying149
  a46 := Tryz.isAgg149
  z46 := Tryz.sizeOf149
  v46 := Tryz.zeroValue149
  t50 := Tryz.underlying90
  a50 := Tryz.isAgg90
  z50 := Tryz.sizeOf90
  v50 := Tryz.zeroValue90
  t53 := Tryz.underlying155
  a53 := Tryz.isAgg155
  z53 := Tryz.sizeOf155
  v53 := Tryz.zeroValue155
  t55 := Tryz.underlying120
  a55 := Tryz.isAgg120
  z55 := Tryz.sizeOf120
  v55 := Tryz.zeroValue120
  t66 := Tryz.underlying193
  a66 := Tryz.isAgg193
  z66 := Tryz.sizeOf193
  v66 := Tryz.zeroValue193
  t70 := Tryz.underlying197
  a70 := Tryz.isAgg197
  z70 := Tryz.sizeOf197
  v70 := Tryz.zeroValue197
  t76 := Tryz.underlying229
  a76 := Tryz.isAgg229
  z76 := Tryz.sizeOf229
  v76 := Tryz.zeroValue229
  t77 := Tryz.underlying230
  a77 := Tryz.isAgg230
  z77 := Tryz.sizeOf230
  v77 := Tryz.zeroValue230 }
end Go.Proofs
