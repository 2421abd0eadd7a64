/-
  Lemmas: The reference's check of a blob. The reference's Check of files. Trees of files: what a visit finds, what Load answers; in plain Lean. The paths that a visit finds differ; in plain Lean. Lists of files with one more, or without one; in plain Lean. slices.Insert and slices.Delete of one file. strings.Cut at a slash. Storing lists of files as objects: what is computed; in plain Lean.
-/
import Derived.Lib.Overlaps
import Derived.Laws.IdiomCopy
import Derived.Deep.RegionLaw
import Derived.Test.YtmdhlkkekidknaaGreatDoorV9
import Derived.Test.YtmdhlkkekidknaaGreatDoorV3
import Derived.Test.YtmdhlkkekidknaaGreatDoorV7
import Derived.Test.YtmdhlkkekidknaaGreatDoorV2
import Derived.Test.YtmdhlkkekidknaaGreatDoorV1
import Derived.Test.YtmdhlkkekidknaaGreatDoorV4

namespace Go.Proofs.YtmdhlkkekidknaaGreatDoor
open Go.RowKit Go.Shelf

set_option maxHeartbeats 1000000 in
theorem num7b_any (n : Nat) (hn : n ≤ 1099511627776) (w : World) : Calls Tryz.prog 170 #[.int .i64 n] w fun e w' => e = .returned (.string (ofL (encN n))) ∧ Below w.heap.size w w' := by
  go_enter Tryz.func170, Tryz.ntmps170
  go_wp2_with fail
  refine (refPutInt_any n hn w).mono ?_
  rintro e w1 ⟨rfl, hb1⟩
  go_wp2_with fail
  go_ret
  exact ⟨rfl, hb1⟩
set_option maxHeartbeats 1000000 in
theorem txt7b_any (s : ByteArray) (hs : s.size ≤ 65536) (w : World) : Calls Tryz.prog 171 #[.string s] w fun e w' => e = .returned (.string (ofL (encT (toL s)))) ∧ Below w.heap.size w w' := by
  go_enter Tryz.func171, Tryz.ntmps171
  go_wp2_with fail
  refine (refPutText_any s hs w).mono ?_
  rintro e w1 ⟨rfl, hb1⟩
  go_wp2_with fail
  go_ret
  exact ⟨rfl, hb1⟩
set_option maxHeartbeats 1000000 in
theorem zero7b_any (w : World) : Calls Tryz.prog 201 #[.agg #[.int .u64 0, .int .u64 0]] w fun e w' => e = .returned (.bool true) ∧ Below w.heap.size w w' := by
  go_enter Tryz.func201, Tryz.ntmps201
  go_wp2
  all_goals (go_ret; exact ⟨rfl, (Below.refl _ w).alloc (Nat.le_refl _) _⟩)
set_option maxRecDepth 100000 in
set_option maxHeartbeats 2000000 in
theorem only7b_any (d : ByteArray) (w : World) : Calls Tryz.prog 167 #[.agg (blobC d)] w fun e w' => e = .returned (.bool true) ∧ Below w.heap.size w w' := by
  unfold blobC
  obtain ⟨W0, hW0⟩ : ∃ W0, w.alloc (.cells #[.int .i64 1, .string d, .slice none 0 0, .int .u64 0, .int .u64 0, .slice none 0 0, .string ⟨#[]⟩, .int .i64 0, .string ⟨#[]⟩] 82) = W0 := ⟨_, rfl⟩
  have HB0 : Hid (Below w.heap.size w W0) := by rw [← hW0]; exact (Below.refl _ w).alloc (Nat.le_refl _) _
  have HK0 : Hid (Bk W0 w.heap.size 82 #[.int .i64 1, .string d, .slice none 0 0, .int .u64 0, .int .u64 0, .slice none 0 0, .string ⟨#[]⟩, .int .i64 0, .string ⟨#[]⟩]) := by rw [← hW0]; exact Bk.new w _ _
  have zW0 : W0.heap.size = w.heap.size + 1 := by rw [← hW0]; simp
  have c0 := HK0.out.cell 0; have c1 := HK0.out.cell 1; have c2 := HK0.out.cell 2; have c3 := HK0.out.cell 3; have c4 := HK0.out.cell 4; have c5 := HK0.out.cell 5; have c6 := HK0.out.cell 6; have c7 := HK0.out.cell 7; have c8 := HK0.out.cell 8
  simp at c0 c1 c2 c3 c4 c5 c6 c7 c8
  go_enter Tryz.func167, Tryz.ntmps167
  go_wp2_with fail
  refine (zero7b_any W0).mono ?_
  rintro e w1 ⟨rfl, hb1⟩
  have HB1 : Hid (Below w.heap.size w w1) := HB0.out.trans (hb1.mono (by omega))
  have HK1 := Lib.hid (HK0.out.below hb1 (by omega))
  clear hb1 hW0 c0 c1 c2 c3 c4 c5 c6 c7 c8
  have c0 := HK1.out.cell 0; have c1 := HK1.out.cell 1; have c2 := HK1.out.cell 2; have c5 := HK1.out.cell 5; have c6 := HK1.out.cell 6; have c7 := HK1.out.cell 7; have c8 := HK1.out.cell 8
  simp at c0 c1 c2 c5 c6 c7 c8
  go_wp2_with fail
  go_ret
  exact ⟨rfl, HB1.out⟩
set_option maxRecDepth 100000 in
set_option maxHeartbeats 2000000 in
theorem fields7b_any (d : ByteArray) (w : World) (hd : d.size ≤ 60000) : Calls Tryz.prog 121 #[.agg (blobC d)] w fun e w' => e = .returned (.int .i64 0) ∧ Below w.heap.size w w' := by
  have HO := fun w => Lib.hid (only7b_any d w)
  unfold blobC at HO ⊢
  obtain ⟨W0, hW0⟩ : ∃ W0, w.alloc (.cells #[.int .i64 1, .string d, .slice none 0 0, .int .u64 0, .int .u64 0, .slice none 0 0, .string ⟨#[]⟩, .int .i64 0, .string ⟨#[]⟩] 82) = W0 := ⟨_, rfl⟩
  have HB0 : Hid (Below w.heap.size w W0) := by rw [← hW0]; exact (Below.refl _ w).alloc (Nat.le_refl _) _
  have HK0 : Hid (Bk W0 w.heap.size 82 #[.int .i64 1, .string d, .slice none 0 0, .int .u64 0, .int .u64 0, .slice none 0 0, .string ⟨#[]⟩, .int .i64 0, .string ⟨#[]⟩]) := by rw [← hW0]; exact Bk.new w _ _
  have zW0 : W0.heap.size = w.heap.size + 1 := by rw [← hW0]; simp
  have HO0 := HO W0
  have hdz : ¬ (65536 : Int) < (d.size : Int) := by omega
  have c0 := HK0.out.cell 0; have c1 := HK0.out.cell 1; have c2 := HK0.out.cell 2; have c3 := HK0.out.cell 3; have c4 := HK0.out.cell 4; have c5 := HK0.out.cell 5; have c6 := HK0.out.cell 6; have c7 := HK0.out.cell 7; have c8 := HK0.out.cell 8
  simp at c0 c1 c2 c3 c4 c5 c6 c7 c8
  clear HO
  go_enter Tryz.func121, Tryz.ntmps121
  go_wp2_with fail
  refine HO0.out.mono ?_
  rintro e w1 ⟨rfl, hb1⟩
  have HB1 : Hid (Below w.heap.size w w1) := HB0.out.trans (hb1.mono (by omega))
  have HK1 := Lib.hid (HK0.out.below hb1 (by omega))
  clear hb1 hW0 c0 c1 c2 c3 c4 c5 c6 c7 c8 HO0
  have c0 := HK1.out.cell 0; have c1 := HK1.out.cell 1
  simp at c0 c1
  go_wp2_with fail
  go_ret
  exact ⟨rfl, HB1.out⟩
set_option maxRecDepth 100000 in
set_option maxHeartbeats 2000000 in
theorem enc7b_any (d : ByteArray) (w : World) (hd : d.size ≤ 60000) : Calls Tryz.prog 122 #[.agg (blobC d)] w fun e w' => (∃ s : ByteArray, e = .returned (.string s) ∧ s.size ≤ 60007) ∧ Below w.heap.size w w' := by
  have hle : (encT (toL d)).length ≤ 60006 := by
    have h1 := encN_len 5 d.size (by omega)
    have hsd := size_toL d
    unfold encT; rw [List.length_append, ← hsd]; omega
  have hl1 : (encN 1).length = 1 := by rw [encN_small (by omega)]; rfl
  unfold blobC
  obtain ⟨W0, hW0⟩ : ∃ W0, w.alloc (.cells #[.int .i64 1, .string d, .slice none 0 0, .int .u64 0, .int .u64 0, .slice none 0 0, .string ⟨#[]⟩, .int .i64 0, .string ⟨#[]⟩] 82) = W0 := ⟨_, rfl⟩
  have HB0 : Hid (Below w.heap.size w W0) := by rw [← hW0]; exact (Below.refl _ w).alloc (Nat.le_refl _) _
  have HK0 : Hid (Bk W0 w.heap.size 82 #[.int .i64 1, .string d, .slice none 0 0, .int .u64 0, .int .u64 0, .slice none 0 0, .string ⟨#[]⟩, .int .i64 0, .string ⟨#[]⟩]) := by rw [← hW0]; exact Bk.new w _ _
  have zW0 : W0.heap.size = w.heap.size + 1 := by rw [← hW0]; simp
  have c0 := HK0.out.cell 0; have c1 := HK0.out.cell 1
  simp at c0 c1
  have HN := Lib.hid (num7b_any 1 (by omega) W0)
  have hs1 : (ofL (encN 1)).size = 1 := by rw [size_ofL, hl1]
  generalize ofL (encN 1) = s1 at HN hs1
  go_enter Tryz.func122, Tryz.ntmps122
  go_wp2_with fail
  refine HN.out.mono ?_
  rintro e w1 ⟨rfl, hb1⟩
  have HB1 : Hid (Below w.heap.size w w1) := HB0.out.trans (hb1.mono (by omega))
  have HK1 := Lib.hid (HK0.out.below hb1 (by omega))
  clear hb1 hW0 c0 c1 HN
  have HT := Lib.hid (txt7b_any d (by omega) w1)
  have hs2 : (ofL (encT (toL d))).size ≤ 60006 := by rw [size_ofL]; exact hle
  generalize ofL (encT (toL d)) = s2 at HT hs2
  have c0 := HK1.out.cell 0; have c1 := HK1.out.cell 1
  simp at c0 c1
  go_wp2_with fail
  refine HT.out.mono ?_
  rintro e w2 ⟨rfl, hb2⟩
  have HB2 : Hid (Below w.heap.size w w2) := HB1.out.trans (hb2.mono HB1.out.size)
  clear hb2 HT c0 c1
  have hsz : ¬ (9223372036854775807 < s1.size + s2.size) := by omega
  go_wp2_with fail
  go_ret
  exact ⟨⟨_, rfl, by rw [ByteArray.size_append]; omega⟩, HB2.out⟩
set_option maxRecDepth 100000 in
set_option maxHeartbeats 2000000 in
theorem check7b_any (d : ByteArray) (w : World) (hd : d.size ≤ 60000) : Calls Tryz.prog 82 #[.agg (blobC d)] w fun e w' => e = .returned (.int .i64 0) ∧ Below w.heap.size w w' := by
  have HF := fun w => Lib.hid (fields7b_any d w hd)
  have HE := fun w => Lib.hid (enc7b_any d w hd)
  unfold blobC at HF HE ⊢
  obtain ⟨W0, hW0⟩ : ∃ W0, w.alloc (.cells #[.int .i64 1, .string d, .slice none 0 0, .int .u64 0, .int .u64 0, .slice none 0 0, .string ⟨#[]⟩, .int .i64 0, .string ⟨#[]⟩] 82) = W0 := ⟨_, rfl⟩
  have HB0 : Hid (Below w.heap.size w W0) := by rw [← hW0]; exact (Below.refl _ w).alloc (Nat.le_refl _) _
  have HK0 : Hid (Bk W0 w.heap.size 82 #[.int .i64 1, .string d, .slice none 0 0, .int .u64 0, .int .u64 0, .slice none 0 0, .string ⟨#[]⟩, .int .i64 0, .string ⟨#[]⟩]) := by rw [← hW0]; exact Bk.new w _ _
  have zW0 : W0.heap.size = w.heap.size + 1 := by rw [← hW0]; simp
  have HF0 := HF W0
  have c0 := HK0.out.cell 0; have c1 := HK0.out.cell 1; have c2 := HK0.out.cell 2; have c3 := HK0.out.cell 3; have c4 := HK0.out.cell 4; have c5 := HK0.out.cell 5; have c6 := HK0.out.cell 6; have c7 := HK0.out.cell 7; have c8 := HK0.out.cell 8
  simp at c0 c1 c2 c3 c4 c5 c6 c7 c8
  clear HF
  go_enter Tryz.func82, Tryz.ntmps82
  go_wp2_with fail
  refine HF0.out.mono ?_
  rintro e w1 ⟨rfl, hb1⟩
  have HB1 : Hid (Below w.heap.size w w1) := HB0.out.trans (hb1.mono (by omega))
  have HK1 := Lib.hid (HK0.out.below hb1 (by omega))
  have HE1 := HE w1
  clear hb1 hW0 c0 c1 c2 c3 c4 c5 c6 c7 c8 HF0 HE
  have c0 := HK1.out.cell 0; have c1 := HK1.out.cell 1; have c2 := HK1.out.cell 2; have c3 := HK1.out.cell 3; have c4 := HK1.out.cell 4; have c5 := HK1.out.cell 5; have c6 := HK1.out.cell 6; have c7 := HK1.out.cell 7; have c8 := HK1.out.cell 8
  simp at c0 c1 c2 c3 c4 c5 c6 c7 c8
  go_wp2_with fail
  refine HE1.out.mono ?_
  rintro e w2 ⟨⟨s, rfl, hs⟩, hb2⟩
  have HB2 : Hid (Below w.heap.size w w2) := HB1.out.trans (hb2.mono HB1.out.size)
  have hsz : ¬ (65536 : Int) < (s.size : Int) := by omega
  clear hb2 HE1 c0 c1 c2 c3 c4 c5 c6 c7 c8
  go_wp2_with fail
  go_ret
  exact ⟨rfl, HB2.out⟩
theorem resultsBl9 {w : World} {a : Array Value} {b : Nat} {d : ByteArray} (ha : a[2]?.getD undef = .pointer (some ⟨b, 0, none⟩)) (h : Bk w b 82 (blobC d)) : (results Tryz.f83 a).run Tryz.prog w = .ok (.agg (blobC d)) w := by
  have c0 := h.cell 0; have c1 := h.cell 1; have c2 := h.cell 2; have c3 := h.cell 3; have c4 := h.cell 4; have c5 := h.cell 5; have c6 := h.cell 6; have c7 := h.cell 7; have c8 := h.cell 8
  simp [blobC] at c0 c1 c2 c3 c4 c5 c6 c7 c8
  simp [results, Tryz.results83, ha, go_sem, blobC, c0, c1, c2, c3, c4, c5, c6, c7, c8]
theorem blob9_any (d : ByteArray) (w : World) : Calls Tryz.prog 83 #[.string d] w fun e w' => e = .returned (.agg (blobC d)) ∧ Below w.heap.size w w' := by
  go_enter Tryz.func83, Tryz.ntmps83
  go_wp2
  have hk : Bk (w.alloc (.cells (blobC d) 82)) w.heap.size 82 (blobC d) := Bk.new w _ _
  exact bodyPost_ret (resultsBl9 rfl hk) rfl ⟨rfl, (Below.refl _ w).alloc (Nat.le_refl _) _⟩
end Go.Proofs.YtmdhlkkekidknaaGreatDoor

namespace Go.Proofs.YtmdhlkkekidknaaGreatDoor
open Go.RowKit Go.Shelf

theorem dirE_of {fs : List Fl} {f g : Fl} (hf : f ∈ fs) (hg : g ∈ fs) (h : belB f.1 g.1 = true) : DirE fs := by
  unfold belB at h
  simp only [Bool.and_eq_true, decide_eq_true_eq] at h
  obtain ⟨h1, h2, h3⟩ := h
  refine ⟨g, hg, f.1.size, h1, ?_⟩
  unfold dirAt
  rw [h2, decide_eq_true h3, Bool.true_and, memB_iff]
  exact List.mem_map_of_mem hf
theorem dirE_no {fs : List Fl} (h : ∀ f ∈ fs, ∀ g ∈ fs, belB f.1 g.1 = false) : ¬ DirE fs := by
  rintro ⟨g, hg, j, hj, hd⟩
  unfold dirAt at hd
  rw [Bool.and_eq_true, decide_eq_true_eq, memB_iff] at hd
  obtain ⟨h1, h2⟩ := hd
  obtain ⟨f, hf, e⟩ := List.mem_map.1 h2
  have := h f hf g hg
  have hs : f.1.size = j := by
    have := congrArg ByteArray.size e
    rw [ByteArray.size_extract] at this
    omega
  unfold belB at this
  rw [hs, ← e, decide_eq_true hj, decide_eq_true h1] at this
  simp at this
set_option maxRecDepth 100000 in
set_option maxHeartbeats 8000000 in
theorem check9_any (A : Option Addr) (n c B : Nat) (fs : List Fl) (w : World) (h0 : Sl w B 2 A n (flat flC fs)) (hB : B ≤ w.heap.size) (hn : n ≤ 1000000) (hsz : ∀ f ∈ fs, f.1.size ≤ 1000000 ∧ f.2.size ≤ 60000) :
    Calls Tryz.prog 40 #[.slice A n c] w fun e w' => ∃ err, e = .returned (.int .i64 err) ∧ TckR fs err ∧ Below w.heap.size w w' := by
  have HL := Lib.hid (h0.len flC_len (by omega))
  have H0 := Lib.hid h0; have HSZ := Lib.hid hsz
  clear h0 hsz
  go_enter Tryz.func40, Tryz.ntmps40
  by_cases hbig : (200 : Int) < (n : Int)
  · have HE : Hid (TckR fs 4) := .inl ⟨by rw [HL.out]; omega, rfl⟩
    go_wp2_with fail
    go_ret
    exact ⟨4, rfl, HE.out, Below.refl _ _⟩
  have hsm : n ≤ 200 := by omega
  obtain ⟨r, hr⟩ : ∃ r, tchk none fs = r := ⟨_, rfl⟩
  have HR := Lib.hid hr
  clear hr
  go_wp2_with fail
  go_loopw [3] (fun i wr => ∃ k : Nat, k ≤ n ∧ i = .int .i64 k ∧ Hid (r = tchk (prevT fs k) (fs.drop k)) ∧ Hid (Below w.heap.size w wr)) (fun i _ => n - (intOf i).toNat)
  case atStart => exact ⟨0, Nat.zero_le _, rfl, HR.out.symm, Below.refl _ _⟩
  case round =>
    obtain ⟨k, hk, rfl, hC, hBel⟩ := hrel
    by_cases hlt : k < n
    · obtain ⟨b, off, f, rfl, hbB, hf, y0, y1⟩ := (H0.out.below hBel.out hB).fl hlt
      have hlz : (k : Int) < (n : Int) := by omega
      have HF := Lib.hid hf
      have hfs := HSZ.out f (List.mem_of_getElem? hf)
      have HC := hC
      rw [tchk_at hf] at HC
      have HPT := Lib.hid (path9_any f.1 wr hfs.1)
      clear hf hC
      go_wp2_with (go_at_call 63; refine HPT.out.mono ?_; rintro e w3 ⟨rfl, hb3⟩; refine halt_ ?_)
      refine unhalt ?_
      have HB3 : Hid (Below w.heap.size w w3) := hBel.out.trans (hb3.mono hBel.out.size)
      have hz0 := hBel.out.size; have hz3 := hb3.size
      have y0 := (hb3.cell (p := ⟨b, off + k * 2, none⟩) (by show b < _; omega)).trans y0
      have y1 := (hb3.cell (p := ⟨b, off + k * 2 + 1, none⟩) (by show b < _; omega)).trans y1
      clear hb3 HPT
      cases hp : pathB f.1 with
      | false =>
        have HE : Hid (TckR fs 6) := .inr (.inl ⟨by rw [HL.out]; omega, by rw [HR.out, HC.out, hp]; simp, by rw [HR.out, HC.out, hp]; simp⟩)
        clear hp
        go_wp2_with fail
        go_ret
        exact ⟨6, rfl, HE.out, HB3.out⟩
      | true =>
        rw [hp, if_pos rfl] at HC
        have HBL := Lib.hid (blob9_any f.2 w3)
        clear hp
        go_wp2_with (go_at_call 83; refine HBL.out.mono ?_; rintro e w4 ⟨rfl, hb4⟩; refine halt_ ?_)
        refine unhalt ?_
        have HOC := Lib.hid (check7b_any f.2 w4 hfs.2)
        have HB4 : Hid (Below w.heap.size w w4) := HB3.out.trans (hb4.mono HB3.out.size)
        clear hb4 HBL y0 y1
        go_wp2_with (go_at_call 82; refine HOC.out.mono ?_; rintro e w5 ⟨rfl, hb5⟩; refine halt_ ?_)
        refine unhalt ?_
        have HB5 : Hid (Below w.heap.size w w5) := HB4.out.trans (hb5.mono HB4.out.size)
        clear hb5 HOC
        obtain ⟨b', off', f', hfe, hbB', hf', y0, y1⟩ := (H0.out.below HB5.out hB).fl hlt
        cases hfe
        obtain rfl : f' = f := by rw [HF.out] at hf'; exact (Option.some.inj hf').symm
        clear hf'
        cases k with
        | zero =>
          have HN : Hid (r = tchk (prevT fs 1) (fs.drop 1)) := by
            show _ = _
            rw [HC.out, if_pos]; rfl
          go_wp2_with fail
          go_quiet (fail)
          go_wp2_with fail
          go_roundw
          case rel => exact ⟨1, hlt, by first | rfl | go_num, HN.out, below_drewN HB5.out _⟩
          case measure => simp [intOf]; omega
        | succ j =>
          obtain ⟨b', off', p, hpe, hbp, hpf, z0, z1⟩ := (H0.out.below HB5.out hB).fl (k := j) (by omega)
          cases hpe
          have HPV : Hid (prevT fs (j + 1) = some p.1) := by show _ = _; unfold prevT; rw [if_neg (by omega), Nat.add_sub_cancel, hpf]; rfl
          have hle := less_str p.1 f'.1
          have hkp : (0 : Int) < ((j + 1 : Nat) : Int) := by omega
          have hw1 : IntKind.i64.wrap (((j + 1 : Nat) : Int) - 1) = (j : Int) := by rw [wrap_sm (by omega) (by omega)]; omega
          have hj1 : ¬ (j : Int) < 0 := by omega
          have hj2 : (j : Int) < (n : Int) := by omega
          clear hpf
          cases hl : less p.1 f'.1 with
          | true =>
            rw [hl] at hle
            have HN : Hid (r = tchk (prevT fs (j + 1 + 1)) (fs.drop (j + 1 + 1))) := by
              show _ = _
              rw [HC.out, if_pos]; rw [HPV.out]; exact hl
            clear hl
            go_wp2_with fail
            go_quiet (fail)
            go_wp2_with fail
            go_roundw
            case rel => exact ⟨j + 1 + 1, hlt, by go_num, HN.out, below_drewN HB5.out _⟩
            case measure => simp [intOf]; omega
          | false =>
            rw [hl] at hle
            have HE : Hid (TckR fs 10) := by
              have h1 : r = 10 := by rw [HC.out, if_neg]; rw [HPV.out]; show ¬ (less p.1 f'.1 = true); rw [hl]; simp
              exact .inr (.inl ⟨by rw [HL.out]; omega, by rw [HR.out, h1]; simp, by rw [HR.out, h1]⟩)
            clear hl
            go_wp2_with fail
            go_quiet (fail)
            go_wp2_with fail
            go_ret
            exact ⟨10, rfl, HE.out, below_drewN HB5.out _⟩
    · have hlz : ¬ (k : Int) < (n : Int) := by omega
      have HT0 : Hid (tchk none fs = 0) := by
        show _ = _
        rw [HR.out, hC.out, List.drop_of_length_le (by rw [HL.out]; omega)]
        rfl
      have HNO : Hid ((∀ f ∈ fs, ∀ g ∈ fs, belB f.1 g.1 = false) → TckR fs 0) := fun h => .inr (.inr ⟨by rw [HL.out]; omega, HT0.out, .inr ⟨dirE_no h, rfl⟩⟩)
      have HYE : Hid (∀ f ∈ fs, ∀ g ∈ fs, belB f.1 g.1 = true → TckR fs 7) := fun f hf g hg h => .inr (.inr ⟨by rw [HL.out]; omega, HT0.out, .inl ⟨dirE_of hf hg h, rfl⟩⟩)
      clear hC
      go_wp2_with fail
      obtain ⟨wo, hwo⟩ : ∃ wo, wo = wr := ⟨_, rfl⟩
      subst hwo
      go_loopw [4] (fun i wr => ∃ k : Nat, k ≤ n ∧ i = .int .i64 k ∧ Hid (∀ f ∈ fs.take k, ∀ g ∈ fs, belB f.1 g.1 = false) ∧ Hid (Below w.heap.size w wr)) (fun i _ => n - (intOf i).toNat)
      case atStart => exact ⟨0, Nat.zero_le _, rfl, fun f hf => by simp at hf, hBel.out⟩
      case round =>
        obtain ⟨i, hi, rfl, hI, hBr⟩ := hrel
        by_cases hil : i < n
        · have hiz : (i : Int) < (n : Int) := by omega
          obtain ⟨b, off, f, rfl, hbB, hf, y0, y1⟩ := (H0.out.below hBr.out hB).fl hil
          have HF := Lib.hid hf
          have HFM := Lib.hid (List.mem_of_getElem? hf)
          clear hf y0 y1
          go_wp2_with fail
          obtain ⟨wp, hwp⟩ : ∃ wo, wo = wr := ⟨_, rfl⟩
          subst hwp
          go_loopw [5] (fun i wr => ∃ k : Nat, k ≤ n ∧ i = .int .i64 k ∧ Hid (∀ g ∈ fs.take k, belB f.1 g.1 = false) ∧ Hid (Below w.heap.size w wr)) (fun i _ => n - (intOf i).toNat)
          case atStart => exact ⟨0, Nat.zero_le _, rfl, fun f hf => by simp at hf, hBr.out⟩
          case round =>
            obtain ⟨j, hj, rfl, hJ, hBq⟩ := hrel
            by_cases hjl : j < n
            · have hjz : (j : Int) < (n : Int) := by omega
              obtain ⟨b1, off1, f1, he1, hbB1, hf1, y0, y1⟩ := (H0.out.below hBq.out hB).fl hil
              cases he1
              obtain rfl : f1 = f := by rw [HF.out] at hf1; exact (Option.some.inj hf1).symm
              obtain ⟨b1, off1, g, he1, hbB2, hg, z0, z1⟩ := (H0.out.below hBq.out hB).fl hjl
              cases he1
              have HG := Lib.hid hg
              have HBE : Hid (∀ q, Calls Tryz.prog 84 #[.string f1.1, .string g.1] (wr.drewN q) fun e w' => e = .returned (.bool (belB f1.1 g.1)) ∧ w' = wr.drewN q) := fun q => (below9_any f1.1 g.1 (wr.drewN q)).mono fun e w' h => ⟨h.1, h.2.symm⟩
              clear hf1 hg y1 z1
              cases hb : belB f1.1 g.1 with
              | true =>
                have HE := Lib.hid (HYE.out f1 HFM.out g (List.mem_of_getElem? HG.out) hb)
                rw [hb] at HBE
                clear hb
                go_wp2_with fail
                go_quiet (first | (go_at_call 84; exact Calls.quiet_of_same (HBE.out _)))
                go_wp2_with fail
                go_ret
                exact ⟨7, rfl, HE.out, below_drewN hBq.out _⟩
              | false =>
                have HN : Hid (∀ g ∈ fs.take (j + 1), belB f1.1 g.1 = false) := fun y hy => by
                  rw [take_snoc HG.out] at hy
                  rcases List.mem_append.1 hy with hy | hy
                  · exact hJ.out y hy
                  · rw [List.mem_singleton.1 hy]; exact hb
                rw [hb] at HBE
                clear hb
                go_wp2_with fail
                go_quiet (first | (go_at_call 84; exact Calls.quiet_of_same (HBE.out _)))
                go_wp2_with fail
                go_roundw
                case rel => exact ⟨j + 1, hjl, by go_num, HN.out, below_drewN hBq.out _⟩
                case measure => simp [intOf]; omega
            · have hjz : ¬ (j : Int) < (n : Int) := by omega
              have HN : Hid (∀ f ∈ fs.take (i + 1), ∀ g ∈ fs, belB f.1 g.1 = false) := fun y hy g hg => by
                rw [take_snoc HF.out] at hy
                rcases List.mem_append.1 hy with hy | hy
                · exact hI.out y hy g hg
                · rw [List.mem_singleton.1 hy]
                  exact hJ.out g (by rw [List.take_of_length_le (by rw [HL.out]; omega)]; exact hg)
              go_wp2_with fail
              go_roundw
              case rel => exact ⟨i + 1, hil, by go_num, HN.out, hBq.out⟩
              case measure => simp [intOf]; omega
        · have hiz : ¬ (i : Int) < (n : Int) := by omega
          have HE : Hid (TckR fs 0) := HNO.out fun f hf => hI.out f (by rw [List.take_of_length_le (by rw [HL.out]; omega)]; exact hf)
          go_wp2_with fail
          go_ret
          exact ⟨0, rfl, HE.out, hBr.out⟩
end Go.Proofs.YtmdhlkkekidknaaGreatDoor

namespace Go.Proofs.YtmdhlkkekidknaaGreatDoor
open Go.RowKit

def slB : ByteArray := ⟨#[47]⟩
noncomputable def vsE (g : Dig → ByteArray → List Fl × Int) (p : List Itm) (pre : ByteArray) : List Ent → List Fl × Int
  | [] => ([], 0)
  | e :: r =>
    if 100 < (pre ++ e.nm).size then ([], 4)
    else if e.dir = true then
      (let s := g e.dg (pre ++ e.nm ++ slB); if s.2 = 0 then (s.1 ++ (vsE g p pre r).1, (vsE g p pre r).2) else s)
    else match getP p e.dg with
      | none => ([], 8)
      | some o => if o.kind = 1 then ((pre ++ e.nm, o.data) :: (vsE g p pre r).1, (vsE g p pre r).2) else ([], 9)
noncomputable def vis (p : List Itm) : Nat → Dig → ByteArray → List Fl × Int
  | 0, _, _ => ([], 4)
  | n + 1, d, pre => match getP p d with
    | none => ([], 8)
    | some o => if o.kind = 2 then (if o.ents = [] ∧ pre ≠ ⟨#[]⟩ then ([], 1) else vsE (vis p n) p pre o.ents) else ([], 9)
theorem vsE_far {g : Dig → ByteArray → List Fl × Int} {p : List Itm} {pre : ByteArray} {e : Ent} {r : List Ent} (h : 100 < (pre ++ e.nm).size) : vsE g p pre (e :: r) = ([], 4) := by rw [vsE, if_pos h]
theorem vsE_dir {g : Dig → ByteArray → List Fl × Int} {p : List Itm} {pre : ByteArray} {e : Ent} {r : List Ent} (h : ¬ 100 < (pre ++ e.nm).size) (hd : e.dir = true) {s : List Fl} (hs : g e.dg (pre ++ e.nm ++ slB) = (s, 0)) :
    vsE g p pre (e :: r) = (s ++ (vsE g p pre r).1, (vsE g p pre r).2) := by rw [vsE, if_neg h, if_pos hd, hs]; rfl
theorem vsE_sub {g : Dig → ByteArray → List Fl × Int} {p : List Itm} {pre : ByteArray} {e : Ent} {r : List Ent} (h : ¬ 100 < (pre ++ e.nm).size) (hd : e.dir = true) {s : List Fl} {z : Int} (hz : z ≠ 0) (hs : g e.dg (pre ++ e.nm ++ slB) = (s, z)) :
    vsE g p pre (e :: r) = (s, z) := by rw [vsE, if_neg h, if_pos hd, hs]; simp only [if_neg hz]
theorem vsE_none {g : Dig → ByteArray → List Fl × Int} {p : List Itm} {pre : ByteArray} {e : Ent} {r : List Ent} (h : ¬ 100 < (pre ++ e.nm).size) (hd : e.dir = false) (hg : getP p e.dg = none) :
    vsE g p pre (e :: r) = ([], 8) := by rw [vsE, if_neg h, if_neg (by rw [hd]; simp), hg]
theorem vsE_kind {g : Dig → ByteArray → List Fl × Int} {p : List Itm} {pre : ByteArray} {e : Ent} {r : List Ent} (h : ¬ 100 < (pre ++ e.nm).size) (hd : e.dir = false) {o : Ob} (hg : getP p e.dg = some o) (hk : o.kind ≠ 1) :
    vsE g p pre (e :: r) = ([], 9) := by rw [vsE, if_neg h, if_neg (by rw [hd]; simp), hg]; simp only [if_neg hk]
theorem vsE_file {g : Dig → ByteArray → List Fl × Int} {p : List Itm} {pre : ByteArray} {e : Ent} {r : List Ent} (h : ¬ 100 < (pre ++ e.nm).size) (hd : e.dir = false) {o : Ob} (hg : getP p e.dg = some o) (hk : o.kind = 1) :
    vsE g p pre (e :: r) = ((pre ++ e.nm, o.data) :: (vsE g p pre r).1, (vsE g p pre r).2) := by rw [vsE, if_neg h, if_neg (by rw [hd]; simp), hg]; simp only [if_pos hk]
def VisAt (g : Dig → ByteArray → List Fl × Int) (p : List Itm) (pre : ByteArray) (es : List Ent) (j : Nat) (fs : List Fl) : Prop := vsE g p pre es = (fs ++ (vsE g p pre (es.drop j)).1, (vsE g p pre (es.drop j)).2)
theorem VisAt.start (g : Dig → ByteArray → List Fl × Int) (p : List Itm) (pre : ByteArray) (es : List Ent) : VisAt g p pre es 0 [] := rfl
theorem drop_at {α : Type} {l : List α} {j : Nat} {x : α} (h : l[j]? = some x) : l.drop j = x :: l.drop (j + 1) := by
  obtain ⟨hl, rfl⟩ := List.getElem?_eq_some_iff.1 h
  exact List.drop_eq_getElem_cons hl
theorem VisAt.done {g : Dig → ByteArray → List Fl × Int} {p : List Itm} {pre : ByteArray} {es : List Ent} {j : Nat} {fs : List Fl} (h : VisAt g p pre es j fs) (hj : es.length ≤ j) : vsE g p pre es = (fs, 0) := by
  unfold VisAt at h; rw [List.drop_of_length_le hj] at h; rw [h]; simp [vsE]
theorem VisAt.fail {g : Dig → ByteArray → List Fl × Int} {p : List Itm} {pre : ByteArray} {es : List Ent} {j : Nat} {fs gs : List Fl} {z : Int} {e : Ent} (h : VisAt g p pre es j fs) (hj : es[j]? = some e) (hz : vsE g p pre (e :: es.drop (j + 1)) = (gs, z)) : vsE g p pre es = (fs ++ gs, z) := by
  unfold VisAt at h; rw [drop_at hj, hz] at h; exact h
theorem VisAt.more {g : Dig → ByteArray → List Fl × Int} {p : List Itm} {pre : ByteArray} {es : List Ent} {j : Nat} {fs gs : List Fl} {e : Ent} (h : VisAt g p pre es j fs) (hj : es[j]? = some e)
    (hz : vsE g p pre (e :: es.drop (j + 1)) = (gs ++ (vsE g p pre (es.drop (j + 1))).1, (vsE g p pre (es.drop (j + 1))).2)) : VisAt g p pre es (j + 1) (fs ++ gs) := by
  unfold VisAt at h ⊢; rw [drop_at hj, hz] at h; rw [h, List.append_assoc]
theorem vis_none {p : List Itm} {n : Nat} {d : Dig} {pre : ByteArray} (h : getP p d = none) : vis p (n + 1) d pre = ([], 8) := by rw [vis, h]
theorem vis_kind {p : List Itm} {n : Nat} {d : Dig} {pre : ByteArray} {o : Ob} (h : getP p d = some o) (hk : o.kind ≠ 2) : vis p (n + 1) d pre = ([], 9) := by rw [vis, h]; simp only [if_neg hk]
theorem vis_empty {p : List Itm} {n : Nat} {d : Dig} {pre : ByteArray} {o : Ob} (h : getP p d = some o) (hk : o.kind = 2) (he : o.ents = []) (hp : pre ≠ ⟨#[]⟩) : vis p (n + 1) d pre = ([], 1) := by rw [vis, h]; simp only [if_pos hk, if_pos (And.intro he hp)]
theorem vis_ents {p : List Itm} {n : Nat} {d : Dig} {pre : ByteArray} {o : Ob} (h : getP p d = some o) (hk : o.kind = 2) (he : ¬ (o.ents = [] ∧ pre ≠ ⟨#[]⟩)) : vis p (n + 1) d pre = vsE (vis p n) p pre o.ents := by rw [vis, h]; simp only [if_pos hk, if_neg he]
noncomputable def visW (p : List Itm) (d : Dig) : List Fl × Int := vis p 102 d ⟨#[]⟩
def AscF (l : List Fl) : Prop := l.Pairwise (fun a b => less a.1 b.1 = true)
structure LdSeq (p : List Itm) (d : Dig) (fs : List Fl) : Prop where
  few : (visW p d).1.length ≤ 200
  ok : (visW p d).2 = 0
  perm : fs.Perm (visW p d).1
  asc : AscF fs
def LodE (p : List Itm) (d : Dig) (err : Int) : Prop := (200 < (visW p d).1.length ∧ err = 4) ∨ ((visW p d).1.length ≤ 200 ∧ (visW p d).2 ≠ 0 ∧ err = (visW p d).2)
theorem AscF.tail {f : Fl} {l : List Fl} (h : AscF (f :: l)) : AscF l := (List.pairwise_cons.1 h).2
theorem AscF.head {f g : Fl} {l : List Fl} (h : AscF (f :: l)) (hg : g ∈ l) : less f.1 g.1 = true := (List.pairwise_cons.1 h).1 g hg
theorem AscF.ext {l m : List Fl} (hl : AscF l) (hm : AscF m) (h : ∀ f, f ∈ l ↔ f ∈ m) : l = m := by
  induction l generalizing m with
  | nil =>
    cases m with
    | nil => rfl
    | cons y q => exact absurd ((h y).2 (by simp)) (by simp)
  | cons x p ih =>
    cases m with
    | nil => exact absurd ((h x).1 (by simp)) (by simp)
    | cons y q =>
      have e : x = y := by
        have h1 := (h x).1 (by simp)
        have h2 := (h y).2 (by simp)
        rcases List.mem_cons.1 h1 with e | h1
        · exact e
        rcases List.mem_cons.1 h2 with e | h2
        · exact e.symm
        exact absurd (lessB_trans (hm.head h1) (hl.head h2)) (by rw [lessB_irrefl]; simp)
      subst e
      rw [ih hl.tail hm.tail]
      intro i
      constructor
      · intro hi
        rcases List.mem_cons.1 ((h i).1 (List.mem_cons_of_mem _ hi)) with rfl | h'
        · exact absurd (hl.head hi) (by rw [lessB_irrefl]; simp)
        · exact h'
      · intro hi
        rcases List.mem_cons.1 ((h i).2 (List.mem_cons_of_mem _ hi)) with rfl | h'
        · exact absurd (hm.head hi) (by rw [lessB_irrefl]; simp)
        · exact h'
theorem LdSeq.uniq {p : List Itm} {d : Dig} {fs gs : List Fl} (h : LdSeq p d fs) (g : LdSeq p d gs) : fs = gs :=
  AscF.ext h.asc g.asc (fun f => by rw [h.perm.mem_iff, g.perm.mem_iff])
end Go.Proofs.YtmdhlkkekidknaaGreatDoor

namespace Go.Proofs.YtmdhlkkekidknaaGreatDoor
open Go.RowKit

theorem bl_app (a b : ByteArray) : bl (a ++ b) = bl a ++ bl b := by
  unfold bl
  rw [ByteArray.data_append, Array.toList_append]
theorem bl_inj {a b : ByteArray} (h : bl a = bl b) : a = b := by rw [← ub_bl a, ← ub_bl b, h]
theorem bl_slB : bl slB = [47] := rfl
def NoSl (s : ByteArray) : Prop := ∀ c ∈ bl s, c ≠ 47
theorem vch_nosl {c : UInt8} (h : vchB c = true) : c ≠ 47 := by
  rintro rfl; revert h; decide
theorem name_nosl {s : ByteArray} (h : nameB s = true) : NoSl s := by
  unfold nameB nameL at h
  simp only [Bool.and_eq_true, List.all_eq_true] at h
  exact fun c hc => vch_nosl (h.2.2.2.2 c hc)
theorem name_len {s : ByteArray} (h : nameB s = true) : 1 ≤ s.size ∧ s.size ≤ 24 := by
  unfold nameB nameL at h
  simp only [Bool.and_eq_true, decide_eq_true_eq] at h
  rw [size_len]; exact ⟨h.1, h.2.1⟩
def Tl (r : List UInt8) : Prop := r = [] ∨ ∃ r', r = 47 :: r'
theorem take_name {n r : List UInt8} (hn : ∀ c ∈ n, c ≠ 47) (hr : Tl r) : (n ++ r).takeWhile (fun c => decide (c ≠ 47)) = n := by
  induction n with
  | nil =>
    rcases hr with rfl | ⟨r', rfl⟩ <;> simp
  | cons c n ih =>
    rw [List.cons_append, List.takeWhile_cons_of_pos (by simp [hn c (by simp)]), ih (fun d hd => hn d (by simp [hd]))]
theorem name_eq {n m : ByteArray} {r t : List UInt8} (hn : NoSl n) (hm : NoSl m) (hr : Tl r) (ht : Tl t) (h : bl n ++ r = bl m ++ t) : n = m ∧ r = t := by
  have h1 := take_name hn hr
  rw [h, take_name hm ht] at h1
  have e := bl_inj h1
  subst e
  exact ⟨rfl, List.append_cancel_left h⟩
def Und (pre : ByteArray) (fs : List Fl) : Prop := ∀ f ∈ fs, ∃ r, bl f.1 = bl pre ++ r
theorem vsE_at {g : Dig → ByteArray → List Fl × Int} {p : List Itm} {pre : ByteArray} (hg : ∀ d q, Und q (g d q).1) : ∀ {es : List Ent} {f : Fl}, f ∈ (vsE g p pre es).1 → ∃ e ∈ es, ∃ r, Tl r ∧ bl f.1 = bl pre ++ (bl e.nm ++ r) := by
  intro es
  induction es with
  | nil => intro f h; cases h
  | cons e es ih =>
    intro f h
    have more : f ∈ (vsE g p pre es).1 → ∃ e' ∈ e :: es, ∃ r, Tl r ∧ bl f.1 = bl pre ++ (bl e'.nm ++ r) := fun h => by
      obtain ⟨e', he, r, h1, h2⟩ := ih h
      exact ⟨e', List.mem_cons_of_mem _ he, r, h1, h2⟩
    have sub : f ∈ (g e.dg (pre ++ e.nm ++ slB)).1 → ∃ e' ∈ e :: es, ∃ r, Tl r ∧ bl f.1 = bl pre ++ (bl e'.nm ++ r) := fun h => by
      obtain ⟨r, hr⟩ := hg _ _ f h
      rw [bl_app, bl_app, bl_slB] at hr
      exact ⟨e, by simp, 47 :: r, .inr ⟨r, rfl⟩, by rw [hr]; simp⟩
    by_cases hf : 100 < (pre ++ e.nm).size
    · rw [vsE_far hf] at h; cases h
    · cases hd : e.dir with
      | true =>
        by_cases hz : (g e.dg (pre ++ e.nm ++ slB)).2 = 0
        · rw [vsE_dir hf hd (s := (g e.dg (pre ++ e.nm ++ slB)).1) (by rw [← hz])] at h
          rcases List.mem_append.1 h with h | h
          · exact sub h
          · exact more h
        · rw [vsE_sub hf hd (s := (g e.dg (pre ++ e.nm ++ slB)).1) hz rfl] at h
          exact sub h
      | false =>
        cases hp : getP p e.dg with
        | none => rw [vsE_none hf hd hp] at h; cases h
        | some o =>
          by_cases hk : o.kind = 1
          · rw [vsE_file hf hd hp hk] at h
            rcases List.mem_cons.1 h with rfl | h
            · exact ⟨e, by simp, [], .inl rfl, by simp [bl_app]⟩
            · exact more h
          · rw [vsE_kind hf hd hp hk] at h; cases h
theorem vis_und (p : List Itm) : ∀ (n : Nat) (d : Dig) (pre : ByteArray), Und pre (vis p n d pre).1 := by
  intro n
  induction n with
  | zero => intro d pre f h; cases h
  | succ n ih =>
    intro d pre f h
    rw [vis] at h
    split at h
    · cases h
    · split at h
      · split at h
        · cases h
        · obtain ⟨e, _, r, _, hr⟩ := vsE_at ih h
          exact ⟨_, hr⟩
      · cases h
theorem asc_names {es : List Ent} (h : OkEs es) : es.Pairwise (fun a b => a.nm ≠ b.nm) := by
  have hp : es.Pairwise (fun a b => less a.nm b.nm = true) := by
    rw [List.pairwise_iff_getElem]
    intro i j hi hj hij
    have key : ∀ k, i + k + 1 < es.length → ∀ b, es[i + k + 1]? = some b → less es[i].nm b.nm = true := by
      intro k
      induction k with
      | zero => intro hk b hb; exact h.asc i _ _ (List.getElem?_eq_getElem hi) hb
      | succ k ih =>
        intro hk b hb
        have h1 := ih (by omega) _ (List.getElem?_eq_getElem (by omega))
        exact lessB_trans h1 (h.asc (i + k + 1) _ _ (List.getElem?_eq_getElem (by omega)) (by rw [show i + k + 1 + 1 = i + (k + 1) + 1 by omega]; exact hb))
    exact key (j - i - 1) (by omega) _ (by rw [show i + (j - i - 1) + 1 = j by omega]; exact List.getElem?_eq_getElem hj)
  exact hp.imp (fun h => lessB_ne h)
theorem vsE_nodup {g : Dig → ByteArray → List Fl × Int} {p : List Itm} {pre : ByteArray} (hg : ∀ d q, Und q (g d q).1) (hn : ∀ d q, ((g d q).1.map Prod.fst).Nodup) :
    ∀ {es : List Ent}, es.Pairwise (fun a b => a.nm ≠ b.nm) → (∀ e ∈ es, NoSl e.nm) → ((vsE g p pre es).1.map Prod.fst).Nodup := by
  intro es
  induction es with
  | nil => intro _ _; exact List.nodup_nil
  | cons e es ih =>
    intro ha hs
    have ha' := List.pairwise_cons.1 ha
    have ih' := ih ha'.2 (fun e' he => hs e' (by simp [he]))
    have far : ∀ f ∈ (vsE g p pre es).1, ∀ r, Tl r → bl f.1 ≠ bl pre ++ (bl e.nm ++ r) := fun f hf r hr he => by
      obtain ⟨e', he', r', hr', h2⟩ := vsE_at hg hf
      rw [h2] at he
      have := (name_eq (hs e' (by simp [he'])) (hs e (by simp)) hr' hr (List.append_cancel_left he)).1
      exact ha'.1 e' he' this.symm
    by_cases hf : 100 < (pre ++ e.nm).size
    · rw [vsE_far hf]; exact List.nodup_nil
    · cases hd : e.dir with
      | true =>
        by_cases hz : (g e.dg (pre ++ e.nm ++ slB)).2 = 0
        · rw [vsE_dir hf hd (s := (g e.dg (pre ++ e.nm ++ slB)).1) (by rw [← hz]), List.map_append, List.nodup_append]
          refine ⟨hn _ _, ih', ?_⟩
          intro a ha b hb hab
          obtain ⟨f, hf1, rfl⟩ := List.mem_map.1 ha
          obtain ⟨f', hf2, rfl⟩ := List.mem_map.1 hb
          obtain ⟨r, hr⟩ := hg _ _ f hf1
          rw [bl_app, bl_app, bl_slB] at hr
          refine far f' hf2 (47 :: r) (.inr ⟨r, rfl⟩) ?_
          rw [← hab, hr]; simp
        · rw [vsE_sub hf hd (s := (g e.dg (pre ++ e.nm ++ slB)).1) hz rfl]
          exact hn _ _
      | false =>
        cases hp : getP p e.dg with
        | none => rw [vsE_none hf hd hp]; exact List.nodup_nil
        | some o =>
          by_cases hk : o.kind = 1
          · rw [vsE_file hf hd hp hk, List.map_cons, List.nodup_cons]
            refine ⟨fun hm => ?_, ih'⟩
            obtain ⟨f, hf1, he⟩ := List.mem_map.1 hm
            exact far f hf1 [] (.inl rfl) (by rw [he]; simp [bl_app])
          · rw [vsE_kind hf hd hp hk]; exact List.nodup_nil
theorem okO_tree {o : Ob} (h : OkO o) (hk : o.kind = 2) : OkEs o.ents := by
  cases h.f with
  | blob k _ _ _ => rcases k with k | k <;> omega
  | tree _ _ _ e => exact e
  | commit k _ _ _ => omega
theorem vis_nodup {p : List Itm} (h : PlOk p) : ∀ (n : Nat) (d : Dig) (pre : ByteArray), ((vis p n d pre).1.map Prod.fst).Nodup := by
  intro n
  induction n with
  | zero => intro d pre; exact List.nodup_nil
  | succ n ih =>
    intro d pre
    rw [vis]
    split
    · exact List.nodup_nil
    · rename_i o ho
      split
      · rename_i hk
        split
        · exact List.nodup_nil
        · have hes := okO_tree (getP_ok h ho) hk
          exact vsE_nodup (vis_und p n) ih (asc_names hes) (fun e he => name_nosl (hes.all e he).nm)
      · exact List.nodup_nil
end Go.Proofs.YtmdhlkkekidknaaGreatDoor

namespace Go.Proofs.YtmdhlkkekidknaaGreatDoor
open Go.RowKit

def withF (l : List Fl) (f : Fl) : List Fl := l.filter (fun g => less g.1 f.1) ++ f :: l.filter (fun g => less f.1 g.1)
def wotF (l : List Fl) (s : ByteArray) : List Fl := l.filter (fun g => !decide (g.1 = s))
theorem mem_withF {l : List Fl} {f g : Fl} : g ∈ withF l f ↔ (g ∈ l ∧ g.1 ≠ f.1) ∨ g = f := by
  unfold withF
  rw [List.mem_append, List.mem_cons, List.mem_filter, List.mem_filter]
  constructor
  · rintro (⟨h1, h2⟩ | h | ⟨h1, h2⟩)
    · exact .inl ⟨h1, lessB_ne h2⟩
    · exact .inr h
    · exact .inl ⟨h1, fun e => lessB_ne h2 e.symm⟩
  · rintro (⟨h1, h2⟩ | h)
    · cases h3 : less g.1 f.1 with
      | true => exact .inl ⟨h1, rfl⟩
      | false =>
        cases h4 : less f.1 g.1 with
        | true => exact .inr (.inr ⟨h1, rfl⟩)
        | false => exact absurd (lessB_conn h3 h4) h2
    · exact .inr (.inl h)
theorem asc_withF {l : List Fl} (h : AscF l) (f : Fl) : AscF (withF l f) := by
  unfold withF AscF
  rw [List.pairwise_append]
  refine ⟨h.filter _, ?_, ?_⟩
  · rw [List.pairwise_cons]
    exact ⟨fun g hg => (List.mem_filter.1 hg).2, h.filter _⟩
  · intro a ha b hb
    have h1 := (List.mem_filter.1 ha).2
    rcases List.mem_cons.1 hb with rfl | hb
    · exact h1
    · exact lessB_trans h1 (List.mem_filter.1 hb).2
theorem asc_nodup {l : List Fl} (h : AscF l) : (l.map Prod.fst).Nodup := by
  unfold List.Nodup
  rw [List.pairwise_map]
  exact List.Pairwise.imp (fun h => lessB_ne h) h
theorem asc_wotF {l : List Fl} (h : AscF l) (s : ByteArray) : AscF (wotF l s) := List.Pairwise.filter _ h
theorem mem_wotF {l : List Fl} {s : ByteArray} {g : Fl} : g ∈ wotF l s ↔ g ∈ l ∧ g.1 ≠ s := by
  unfold wotF; rw [List.mem_filter]; simp
theorem wotF_len (l : List Fl) (s : ByteArray) : (wotF l s).length ≤ l.length := List.length_filter_le _ _
theorem filter_two (l : List Fl) {a b : Fl → Bool} (h : ∀ g, a g = true → b g = false) : (l.filter a).length + (l.filter b).length ≤ l.length := by
  induction l with
  | nil => simp
  | cons g l ih =>
    rw [List.filter_cons, List.filter_cons]
    cases ha : a g with
    | true => rw [h g ha]; simp; omega
    | false => cases b g <;> simp <;> omega
theorem withF_len (l : List Fl) (f : Fl) : (withF l f).length ≤ l.length + 1 := by
  unfold withF
  have := filter_two l (a := fun g => less g.1 f.1) (b := fun g => less f.1 g.1) (fun g h => lessB_asymm h)
  rw [List.length_append, List.length_cons]; omega
theorem withF_new {l : List Fl} {f : Fl} (h : ∀ g ∈ l, g.1 ≠ f.1) : (withF l f).Perm (l ++ [f]) := by
  have key : ∀ l : List Fl, (∀ g ∈ l, g.1 ≠ f.1) → (l.filter (fun g => less g.1 f.1) ++ l.filter (fun g => less f.1 g.1)).Perm l := by
    intro l
    induction l with
    | nil => intro _; exact .refl _
    | cons g l ih =>
      intro h
      have ih' := ih (fun x hx => h x (by simp [hx]))
      cases h3 : less g.1 f.1 with
      | true =>
        rw [List.filter_cons_of_pos (by simpa using h3), List.filter_cons_of_neg (by rw [lessB_asymm h3]; simp), List.cons_append]
        exact ih'.cons g
      | false =>
        have h4 : less f.1 g.1 = true := by
          cases h4 : less f.1 g.1 with
          | true => rfl
          | false => exact absurd (lessB_conn h3 h4) (h g (by simp))
        rw [List.filter_cons_of_neg (by rw [h3]; simp), List.filter_cons_of_pos (by simpa using h4)]
        exact List.perm_middle.trans (ih'.cons g)
  unfold withF
  refine List.perm_middle.trans ?_
  refine ((key l h).cons f).trans ?_
  exact (List.perm_append_comm (l₁ := [f]) (l₂ := l))
def WithAt (l : List Fl) (f : Fl) (i : Nat) (put : Bool) (out : List Fl) : Prop :=
  (put = false ∧ out = l.take i ∧ ∀ g ∈ l.take i, less g.1 f.1 = true) ∨ (put = true ∧ out = (l.take i).filter (fun g => less g.1 f.1) ++ f :: (l.take i).filter (fun g => less f.1 g.1) ∧ ∀ g ∈ l.drop i, less g.1 f.1 = false)
theorem WithAt.start (l : List Fl) (f : Fl) : WithAt l f 0 false [] := .inl ⟨rfl, rfl, fun g h => by cases h⟩
section
variable {l out : List Fl} {f g : Fl} {i : Nat} {put : Bool}
theorem WithAt.low (h : WithAt l f i false out) (hg : l[i]? = some g) (hl : less g.1 f.1 = true) : WithAt l f (i + 1) false (out ++ [g]) := by
  rcases h with ⟨_, rfl, h3⟩ | ⟨h, _⟩
  · refine .inl ⟨rfl, (take_snoc hg).symm, fun x hx => ?_⟩
    rw [take_snoc hg] at hx
    rcases List.mem_append.1 hx with hx | hx
    · exact h3 x hx
    · rw [List.mem_singleton.1 hx]; exact hl
  · cases h
theorem filter_all {α : Type} {p : α → Bool} {l : List α} (h : ∀ x ∈ l, p x = true) : l.filter p = l := List.filter_eq_self.2 h
theorem filter_none {α : Type} {p : α → Bool} {l : List α} (h : ∀ x ∈ l, p x = false) : l.filter p = [] := List.filter_eq_nil_iff.2 (fun x hx => by rw [h x hx]; simp)
theorem WithAt.put_ (ha : AscF l) (h : WithAt l f i false out) (hg : l[i]? = some g) (hl : less g.1 f.1 = false) : out ++ [f] = (l.take i).filter (fun g => less g.1 f.1) ++ f :: (l.take i).filter (fun g => less f.1 g.1) ∧ ∀ x ∈ l.drop i, less x.1 f.1 = false := by
  rcases h with ⟨_, rfl, h3⟩ | ⟨h, _⟩
  · refine ⟨?_, fun x hx => ?_⟩
    · rw [filter_all h3, filter_none (fun x hx => lessB_asymm (h3 x hx))]
    · rw [drop_at hg] at hx
      rcases List.mem_cons.1 hx with rfl | hx
      · exact hl
      · cases hb : less x.1 f.1 with
        | false => rfl
        | true =>
          have h4 : AscF (l.drop i) := List.Pairwise.sublist (List.drop_sublist _ _) ha
          rw [drop_at hg] at h4
          have := lessB_trans (h4.head hx) hb
          rw [hl] at this; cases this
  · cases h
theorem WithAt.same_ (ho : out = (l.take i).filter (fun g => less g.1 f.1) ++ f :: (l.take i).filter (fun g => less f.1 g.1)) (hd : ∀ x ∈ l.drop i, less x.1 f.1 = false) (hg : l[i]? = some g) (he : g.1 = f.1) : WithAt l f (i + 1) true out := by
  have h0 : less g.1 f.1 = false := by rw [he]; exact lessB_irrefl _
  have h1 : less f.1 g.1 = false := by rw [he]; exact lessB_irrefl _
  refine .inr ⟨rfl, ?_, fun x hx => hd x (by rw [drop_at hg]; exact List.mem_cons_of_mem _ hx)⟩
  rw [take_snoc hg, List.filter_append, List.filter_append, ho]
  simp [h0, h1]
theorem WithAt.high (ho : out = (l.take i).filter (fun g => less g.1 f.1) ++ f :: (l.take i).filter (fun g => less f.1 g.1)) (hd : ∀ x ∈ l.drop i, less x.1 f.1 = false) (hg : l[i]? = some g) (he : g.1 ≠ f.1) : WithAt l f (i + 1) true (out ++ [g]) := by
  have h0 : less g.1 f.1 = false := hd g (by rw [drop_at hg]; simp)
  have h1 : less f.1 g.1 = true := by
    cases h1 : less f.1 g.1 with
    | true => rfl
    | false => exact absurd (lessB_conn h0 h1) he
  refine .inr ⟨rfl, ?_, fun x hx => hd x (by rw [drop_at hg]; exact List.mem_cons_of_mem _ hx)⟩
  rw [take_snoc hg, List.filter_append, List.filter_append, ho]
  simp [h0, h1]
theorem WithAt.of_true (h : WithAt l f i true out) : out = (l.take i).filter (fun g => less g.1 f.1) ++ f :: (l.take i).filter (fun g => less f.1 g.1) ∧ ∀ x ∈ l.drop i, less x.1 f.1 = false := by
  rcases h with ⟨h, _⟩ | ⟨_, h⟩
  · cases h
  · exact h
theorem WithAt.done_true (h : WithAt l f i true out) (hi : l.length ≤ i) : out = withF l f := by
  have := h.of_true.1
  rw [List.take_of_length_le hi] at this; exact this
theorem WithAt.done_false (h : WithAt l f i false out) (hi : l.length ≤ i) : out ++ [f] = withF l f := by
  rcases h with ⟨_, h1, h3⟩ | ⟨h, _⟩
  · rw [List.take_of_length_le hi] at h1 h3
    unfold withF
    rw [filter_all h3, filter_none (fun x hx => lessB_asymm (h3 x hx)), h1]
  · cases h
theorem WithAt.len (h : WithAt l f i put out) : out.length ≤ i + 1 := by
  rcases h with ⟨_, rfl, _⟩ | ⟨_, rfl, _⟩
  · rw [List.length_take]; omega
  · have := filter_two (l.take i) (a := fun g => less g.1 f.1) (b := fun g => less f.1 g.1) (fun g h => lessB_asymm h)
    rw [List.length_take] at this
    rw [List.length_append, List.length_cons]; omega
end
def RvErr (l : List Fl) (r : List Fl × Int) (err : Int) : Prop := (200 < l.length + r.1.length ∧ err = 4) ∨ (l.length + r.1.length ≤ 200 ∧ r.2 ≠ 0 ∧ err = r.2)
structure RvOk (l : List Fl) (r : List Fl × Int) (m : List Fl) : Prop where
  few : l.length + r.1.length ≤ 200
  ok : r.2 = 0
  perm : m.Perm (l ++ r.1)
  asc : AscF m
theorem rv_top {p : List Itm} {d : Dig} {m : List Fl} (h : RvOk [] (visW p d) m) : LdSeq p d m := ⟨by have := h.few; simpa using this, h.ok, by simpa using h.perm, h.asc⟩
theorem rv_topE {p : List Itm} {d : Dig} {err : Int} (h : RvErr [] (visW p d) err) : LodE p d err := by
  rcases h with ⟨h1, h2⟩ | ⟨h1, h2, h3⟩
  · exact .inl ⟨by simpa using h1, h2⟩
  · exact .inr ⟨by simpa using h1, h2, h3⟩
structure RvAt (g : Dig → ByteArray → List Fl × Int) (p : List Itm) (pre : ByteArray) (es : List Ent) (l : List Fl) (j : Nat) (fs m : List Fl) : Prop where
  at_ : VisAt g p pre es j fs
  few : l.length + fs.length ≤ 200
  perm : m.Perm (l ++ fs)
  asc : AscF m
section
variable {g : Dig → ByteArray → List Fl × Int} {p : List Itm} {pre : ByteArray} {es : List Ent} {l fs m : List Fl} {j : Nat} {e : Ent}
theorem RvAt.start (ha : AscF l) (hl : l.length ≤ 200) : RvAt g p pre es l 0 [] l := ⟨.start _ _ _ _, by simpa using hl, by simp, ha⟩
theorem RvAt.done (h : RvAt g p pre es l j fs m) (hj : es.length ≤ j) : RvOk l (vsE g p pre es) m := by
  rw [h.at_.done hj]; exact ⟨h.few, rfl, h.perm, h.asc⟩
theorem RvAt.mlen (h : RvAt g p pre es l j fs m) : m.length = l.length + fs.length := by rw [h.perm.length_eq, List.length_append]
theorem RvAt.nod (h : RvAt g p pre es l j fs m) (hn : ((l ++ (vsE g p pre es).1).map Prod.fst).Nodup) : ((m ++ (vsE g p pre (es.drop j)).1).map Prod.fst).Nodup := by
  rw [h.at_] at hn
  simp only at hn
  rw [← List.append_assoc] at hn
  refine (List.Perm.nodup_iff ?_).1 hn
  exact ((h.perm.append_right _).map _).symm
theorem RvAt.err (h : RvAt g p pre es l j fs m) (hj : es[j]? = some e) {z : Int} (hz : vsE g p pre (e :: es.drop (j + 1)) = ([], z)) (h0 : z ≠ 0) : RvErr l (vsE g p pre es) z := by
  rw [h.at_.fail hj hz, List.append_nil]; exact .inr ⟨h.few, h0, rfl⟩
theorem RvAt.subE (h : RvAt g p pre es l j fs m) (hj : es[j]? = some e) {r : List Fl × Int} (hlt : ¬ 100 < (pre ++ e.nm).size) (hd : e.dir = true) (hr : g e.dg (pre ++ e.nm ++ slB) = r) {err : Int} (he : RvErr m r err) : RvErr l (vsE g p pre es) err := by
  have hm := h.mlen
  obtain ⟨s, z⟩ := r
  by_cases hz : z = 0
  · subst hz
    rcases he with ⟨h1, h2⟩ | ⟨_, h2, _⟩
    · refine .inl ⟨?_, h2⟩
      rw [h.at_.fail hj (vsE_dir hlt hd hr)]
      simp only [List.length_append] at h1 ⊢
      omega
    · exact absurd rfl h2
  · rw [RvErr, h.at_.fail hj (vsE_sub hlt hd hz hr)]
    rcases he with ⟨h1, h2⟩ | ⟨h1, h2, h3⟩
    · refine .inl ⟨?_, h2⟩
      simp only [List.length_append] at h1 ⊢
      omega
    · refine .inr ⟨?_, h2, h3⟩
      simp only [List.length_append] at h1 ⊢
      omega
theorem RvAt.sub (h : RvAt g p pre es l j fs m) (hj : es[j]? = some e) {r : List Fl × Int} (hlt : ¬ 100 < (pre ++ e.nm).size) (hd : e.dir = true) (hr : g e.dg (pre ++ e.nm ++ slB) = r) {m' : List Fl} (ho : RvOk m r m') : RvAt g p pre es l (j + 1) (fs ++ r.1) m' := by
  have hm := h.mlen
  obtain ⟨s, z⟩ := r
  obtain ⟨h1, h2, h3, h4⟩ := ho
  simp only at h1 h2 h3
  subst h2
  refine ⟨h.at_.more hj (vsE_dir hlt hd hr), ?_, ?_, h4⟩
  · rw [List.length_append]; simp only; omega
  · rw [← List.append_assoc]; exact h3.trans (h.perm.append_right _)
theorem RvAt.nodS (h : RvAt g p pre es l j fs m) (hj : es[j]? = some e) (hn : ((l ++ (vsE g p pre es).1).map Prod.fst).Nodup) {r : List Fl × Int} (hlt : ¬ 100 < (pre ++ e.nm).size) (hd : e.dir = true) (hr : g e.dg (pre ++ e.nm ++ slB) = r) : ((m ++ r.1).map Prod.fst).Nodup := by
  have h1 := h.nod hn
  rw [drop_at hj] at h1
  obtain ⟨s, z⟩ := r
  by_cases hz : z = 0
  · subst hz
    rw [vsE_dir hlt hd hr] at h1
    simp only at h1 ⊢
    refine h1.sublist ?_
    exact (List.Sublist.append_left (List.sublist_append_left _ _) _).map _
  · rw [vsE_sub hlt hd hz hr] at h1; exact h1
theorem RvAt.file (h : RvAt g p pre es l j fs m) (hj : es[j]? = some e) (hn : ((l ++ (vsE g p pre es).1).map Prod.fst).Nodup) (hlt : ¬ 100 < (pre ++ e.nm).size) (hd : e.dir = false) {o : Ob} (hg : getP p e.dg = some o) (hk : o.kind = 1) (hm : m.length ≠ 200) :
    RvAt g p pre es l (j + 1) (fs ++ [(pre ++ e.nm, o.data)]) (withF m (pre ++ e.nm, o.data)) := by
  have hml := h.mlen
  have hfew := h.few
  have h1 := h.nod hn
  rw [drop_at hj, vsE_file hlt hd hg hk] at h1
  simp only [List.map_append, List.map_cons] at h1
  refine ⟨h.at_.more hj (by rw [vsE_file hlt hd hg hk]; rfl), by rw [List.length_append]; simp; omega, ?_, asc_withF h.asc _⟩
  refine (withF_new (fun x hx he => ?_)).trans ?_
  · have := (List.nodup_append.1 h1).2.2 x.1 (List.mem_map_of_mem hx) (pre ++ e.nm) (by simp)
    exact this he
  · rw [← List.append_assoc]; exact h.perm.append_right _
theorem RvAt.full (h : RvAt g p pre es l j fs m) (hj : es[j]? = some e) (hlt : ¬ 100 < (pre ++ e.nm).size) (hd : e.dir = false) {o : Ob} (hg : getP p e.dg = some o) (hk : o.kind = 1) (hm : m.length = 200) : RvErr l (vsE g p pre es) 4 := by
  have hml := h.mlen
  rw [RvErr, h.at_.fail hj (vsE_file hlt hd hg hk)]
  exact .inl ⟨by simp only [List.length_append, List.length_cons]; omega, rfl⟩
end
end Go.Proofs.YtmdhlkkekidknaaGreatDoor

namespace Go.Proofs.YtmdhlkkekidknaaGreatDoor
open Go.RowKit Go.Shelf

section
variable {P : Program}
theorem run_copy_k (w : World) (dT sT ty elem : TypeId) (s b o dLen dCap : Nat) (a : Addr) (sLen sCap m : Nat) (cs : List Value) (hu : P.underlying dT = some (.slice elem)) (hs : (P.info? elem).map (·.size) = some s) (hm : Nat.min sLen dLen = m) (hn : cs.length = m * s)
    (hsrc : ∀ j v, cs[j]? = some v → w.cell? (a.add j) = some v) (hc : ∀ j, j < cs.length → (w.cell? ⟨b, o + j, none⟩).isSome = true) (hf : ∀ j, j < cs.length → w.frozen? ⟨b, o + j, none⟩ = false) (h1 : ∀ v ∈ cs, v.oneCell' = true) :
    (Builtin.copy_ #[dT, sT] ty #[.slice (some ⟨b, o, none⟩) dLen dCap, .slice (some a) sLen sCap]).run P w = .ok (goInt m) (w.setCells b o cs) := by
  have hl := run_loadCells_list (P := P) w a cs hsrc
  have hst := run_storeCells_cells (P := P) b o cs 0 w (by simpa using hc) (by simpa using hf) h1
  rw [hn] at hl
  cases hq : P.info? elem with
  | none => simp [hq] at hs
  | some i =>
    have hi : i.size = s := by simpa [hq] using hs
    simp [Builtin.copy_, run_underlying hu, Builtin.lenOf, Builtin.firstCells, sizeOf, typeInfo, hq, hi, hm, hl, hst]
theorem wpList_copy_run (w : World) {ops : Array Oper} {rest : List Oper} {o : Oper} {a : Act} {Q : Exit → Act → World → Prop} (hgd : o.guard = none) (d s : Operand) (t t' : TypeId)
    (ho : o.op = .call { callee := .builtin .copy, args := #[d, s], argTypes := #[t, t'] }) (v u : Value) (hd : a.eval d = v) (hs : a.eval s = u) {v' : Value} {w' : World}
    (hr : (Builtin.copy_ #[t, t'] o.type #[v, u]).run P w = .ok v' w') (h : wpList P ops Q rest (a.put o.dst v') w') : wpList P ops Q (o :: rest) a w := by
  refine wpList_plain hgd fun K hK => ?_
  unfold Oper.wp execOp
  simp only [ho, resolve, invoke, builtin, Sem.run_bind, Sem.run_pure, Result.andThen_ok, List.map_toArray, List.map_cons, List.map_nil, hd, hs, hr]
  exact hK _ _ h
theorem step_copy_run {ops : Array Oper} {o : Oper} {a : Act} {w : World} {K : Act → World → Prop} {Q : Exit → Act → World → Prop} {E : Prop}
    (hg : o.guard = none) (d x : Operand) (dT sT : TypeId) (hop : o.op = Op.call { callee := Callee.builtin Builtin.copy, args := #[d, x], argTypes := #[dT, sT] })
    (v u : Value) (hd : a.eval d = v) (hx : a.eval x = u) {v' : Value} {w' : World} (hr : (Builtin.copy_ #[dT, sT] o.type #[v, u]).run P w = .ok v' w') (hK : K (a.put o.dst v') w') :
    if Region.wanted o (yielded ops a.tmps) = true then Oper.wp P o a w K Q else E := by
  have hw : Region.wanted o (yielded ops a.tmps) = true := by simp [Region.wanted, hg]
  rw [if_pos hw]
  unfold Oper.wp
  simp [execOp, hop, resolve, invoke, builtin, hd, hx, hr, Result.andThen]
  exact hK
end
theorem below_setCells {B b : Nat} {w0 : World} (hb : B ≤ b) : ∀ (vs : List Value) (o : Nat) (w : World), Below B w0 w → Below B w0 (w.setCells b o vs)
  | [], _, _, h => h
  | v :: r, o, _, h => below_setCells hb r (o + 1) _ (h.setCell (p := ⟨b, o, none⟩) hb v)
theorem size_setCells (b : Nat) : ∀ (vs : List Value) (o : Nat) (w : World), (w.setCells b o vs).heap.size = w.heap.size
  | [], _, _ => rfl
  | v :: r, _, _ => by rw [World.setCells, size_setCells b r]; simp [World.setCell]
theorem some_setCells (b : Nat) (vs : List Value) (o : Nat) (w : World) (h : ∀ j, j < vs.length → (w.cell? ⟨b, o + j, none⟩).isSome = true) (k : Nat) (hk : (w.cell? ⟨b, k, none⟩).isSome = true) : ((w.setCells b o vs).cell? ⟨b, k, none⟩).isSome = true := by
  by_cases hin : o ≤ k ∧ k < o + vs.length
  · have := World.cell?_setCells_in b vs o w h (k - o) (by omega)
    rw [show o + (k - o) = k by omega] at this
    rw [this]; rfl
  · rw [World.cell?_setCells_out b vs o w ⟨b, k, none⟩ (fun _ _ => by show k < o ∨ o + vs.length ≤ k; omega)]
    exact hk
theorem flC_one' (l : List Fl) : ∀ u ∈ flat flC l, u.oneCell' = true := fun u hu => by
  unfold flat at hu
  obtain ⟨i, _, h⟩ := List.mem_flatMap.1 hu
  simp [flC] at h
  rcases h with rfl | rfl <;> rfl
theorem infoFlI : (Tryz.prog.info? 68).map (fun i => (i.zero, i.size, i.bytes)) = some (some (.agg #[.string ⟨#[]⟩, .string ⟨#[]⟩]), 2, 32) := by kernel_rfl
theorem sizeFl : (Tryz.prog.info? 68).map (·.size) = some 2 := by
  obtain ⟨i0, hi, _, h1, _⟩ := info_parts infoFlI
  rw [hi]; simp [h1]
def insL (l : List Fl) (i : Nat) (f : Fl) : List Fl := l.take i ++ f :: l.drop i
theorem insL_cells (l : List Fl) (i : Nat) (f : Fl) : flat flC (insL l i f) = (flat flC l).take (i * 2) ++ (flC f ++ (flat flC l).drop (i * 2)) := by
  unfold insL
  rw [flat_append, flat_take flC_len]
  congr 1
  show flC f ++ flat flC (l.drop i) = _
  rw [flat_drop flC_len]
def InsFE (base : Nat) (l : List Fl) (i : Nat) (f : Fl) (w : World) (e : Ending) (w' : World) : Prop :=
  ∃ A c, e = .returned (.slice A (l.length + 1) c) ∧ Sl w' w'.heap.size 2 A (l.length + 1) (flat flC (insL l i f)) ∧ Below base w w' ∧ l.length + 1 ≤ c ∧ c ≤ maxLen
set_option maxRecDepth 100000 in
set_option maxHeartbeats 4000000 in
theorem insF_room (base g n c i vb : Nat) (l : List Fl) (f : Fl) (w : World) (ho : w.ownsRow base 68 2 (.slice (some ⟨g, 0, none⟩) n c) n (flat flC l)) (hln : l.length = n) (hi : i < n) (hroom : n + 1 ≤ c) (hn : n ≤ 1000000) (hvb : Bk w vb 68 #[.string f.1, .string f.2]) (hne : vb ≠ g) :
    Calls Tryz.prog 50 #[.slice (some ⟨g, 0, none⟩) n c, .int .i64 i, .slice (some ⟨vb, 0, none⟩) 1 1] w (InsFE base l i f w) := by
  obtain ⟨hxl, hform⟩ := ho
  rcases hform with ⟨hv, _⟩ | ⟨g', c', cur, hv, hb, hh, h1, h2, h3, h4⟩
  · cases hv
  injection hv with hv1 hv2 hv3
  injection hv1 with hv1
  injection hv1 with hv1
  subst hv1; subst hv3
  have hgn : vb ≠ g := hne
  have hcell : ∀ j v, (flat flC l)[j]? = some v → w.cell? ⟨g, j, none⟩ = some v := fun j v hj => by
    rw [← h4, List.getElem?_take] at hj
    split at hj
    · simp [World.cell?, hh]; simpa using hj
    · cases hj
  have hsp : ∀ j, j < (n + 1) * 2 → (w.cell? ⟨g, j, none⟩).isSome = true := fun j hj => by
    have : j < cur.size := by omega
    simp [World.cell?, hh, this]
  have hfz : ∀ j, w.frozen? ⟨g, j, none⟩ = false := fun j => by simp [World.frozen?, hh]
  have hsa : w.shape? vb = some (68, 2) := by
    have : w.heap[vb]? = _ := hvb
    simp [World.shape?, this]
  have hsb : w.shape? g = some (68, cur.size) := by simp [World.shape?, hh]
  have hov : ∀ o lb cb, (callFunc 101 #[.slice (some ⟨vb, 0, none⟩) 1 1, .slice (some ⟨g, o, none⟩) lb cb]).run Tryz.prog w = .ok (.value (.bool false)) w := fun o lb cb => by
    rw [run_callFunc_extern Tryz.func101 (by kernel_rfl) (by kernel_rfl) (by kernel_rfl) (e := Extern.SlicesOverlaps.overlaps #[24, 24] #[4]) (by kernel_rfl),
      Lib.run_overlaps_apart w 24 4 68 Tryz.underlying24 2 (Tryz.sizeOf68) ⟨vb, 0, none⟩ ⟨g, o, none⟩ 1 1 lb cb hgn 68 68 2 cur.size hsa hsb (by omega) (hvb.free 0) (hvb.free 2)]
    rfl
  obtain ⟨xs, hxs⟩ : ∃ xs, flat flC l = xs := ⟨_, rfl⟩
  have HONE : Hid (∀ u ∈ xs, u.oneCell' = true) := by rw [← hxs]; exact flC_one' l
  have HINS := Lib.hid (insL_cells l i f)
  rw [hxs] at hxl hcell HINS
  have hdl : (xs.drop (i * 2)).length = (n - i) * 2 := by rw [List.length_drop]; omega
  have hz2 : ¬ ((i : Int) = (n : Int)) := by omega
  have hz3 : ¬ ((c : Int) < (n : Int) + 1) := by omega
  have hw1 : IntKind.i64.wrap ((i : Int) + 1) = (i : Int) + 1 := by rw [IntKind.wrap_i64]; omega
  have hb1 : (0 : Int) ≤ (i : Int) + 1 := by omega
  have hin : i ≤ n := by omega
  have htn : ((i : Int) + 1).toNat = i + 1 := by omega
  have hb2 : ¬ (c = i + 1) := by omega
  have hb3 : (i : Int) ≤ (n : Int) + 1 := by omega
  have hb4 : ¬ (c = i) := by omega
  have hc63 : c ≤ 9223372036854775807 := by unfold maxLen at h2; exact h2
  have HH := Lib.hid hh; have HVB := Lib.hid hvb
  have HCL := Lib.hid hcell; have HSP := Lib.hid hsp; have HFZ := Lib.hid hfz
  obtain ⟨W1, hW1⟩ : ∃ W1, w.drew.setCells g ((i + 1) * 2) (xs.drop (i * 2)) = W1 := ⟨_, rfl⟩
  have hcp1 : ∀ ty, (Builtin.copy_ #[24, 24] ty #[.slice (some ⟨g, (i + 1) * 2, none⟩) (n + 1 - (i + 1)) (c - (i + 1)), .slice (some ⟨g, i * 2, none⟩) (n + 1 - i) (c - i)]).run Tryz.prog w.drew = .ok (goInt ((n - i : Nat) : Int)) W1 := fun ty => by
    rw [← hW1]
    exact run_copy_k w.drew 24 24 ty 68 2 g ((i + 1) * 2) (n + 1 - (i + 1)) (c - (i + 1)) ⟨g, i * 2, none⟩ (n + 1 - i) (c - i) (n - i) (xs.drop (i * 2)) Tryz.underlying24 sizeFl (by simp only [Nat.min_def]; split <;> omega) hdl
      (fun j v hj => by rw [Addr.add_lit]; exact hcell _ v (by rwa [List.getElem?_drop] at hj)) (fun j hj => hsp _ (by rw [hdl] at hj; omega)) (fun j hj => hfz _) (fun v hv => HONE.out v (List.mem_of_mem_drop hv))
  have hs1 : ∀ k, k < (n + 1) * 2 → (W1.cell? ⟨g, k, none⟩).isSome = true := fun k hk => by
    rw [← hW1]
    exact some_setCells g (xs.drop (i * 2)) ((i + 1) * 2) w.drew (fun j hj => hsp _ (by rw [hdl] at hj; omega)) k (hsp k hk)
  have hvc : W1.cell? ⟨vb, 0, none⟩ = some (.string f.1) ∧ W1.cell? ⟨vb, 1, none⟩ = some (.string f.2) := by
    rw [← hW1]
    rw [World.cell?_setCells_out g _ _ _ _ (fun h _ => absurd h hgn), World.cell?_setCells_out g _ _ _ _ (fun h _ => absurd h hgn)]
    exact ⟨hvb.cell 0, hvb.cell 1⟩
  have hcp2 : ∀ ty, (Builtin.copy_ #[24, 24] ty #[.slice (some ⟨g, i * 2, none⟩) (n + 1 - i) (c - i), .slice (some ⟨vb, 0, none⟩) 1 1]).run Tryz.prog W1 = .ok (goInt 1) (W1.setCells g (i * 2) (flC f)) := fun ty =>
    run_copy_k W1 24 24 ty 68 2 g (i * 2) (n + 1 - i) (c - i) ⟨vb, 0, none⟩ 1 1 1 (flC f) Tryz.underlying24 sizeFl (by simp only [Nat.min_def]; split <;> omega) rfl
      (fun j v hj => by
        rw [Addr.add_lit]
        rcases j with _ | _ | j
        · simp [flC] at hj; subst hj; simpa using hvc.1
        · simp [flC] at hj; subst hj; simpa using hvc.2
        · simp [flC] at hj)
      (fun j hj => hs1 _ (by have : (flC f).length = 2 := rfl; omega)) (fun j hj => by rw [← hW1, World.frozen?_setCells]; exact hfz _) (fun v hv => by simp [flC] at hv; rcases hv with rfl | rfl <;> rfl)
  have HFIN : Hid (Sl (W1.setCells g (i * 2) (flC f)) (W1.setCells g (i * 2) (flC f)).heap.size 2 (some ⟨g, 0, none⟩) (n + 1) (flat flC (insL l i f))) := by
    refine ⟨by rw [flat_len flC_len, ← hln]; unfold insL; simp; omega, fun _ => ⟨g, 0, rfl, ?_, fun j u hu => ?_⟩⟩
    · rw [size_setCells, ← hW1, size_setCells]; exact (Array.getElem?_eq_some_iff.1 hh).1
    · rw [HINS.out] at hu
      rw [Nat.zero_add]
      have hfl : (flC f).length = 2 := rfl
      have htl : (xs.take (i * 2)).length = i * 2 := by rw [List.length_take]; omega
      by_cases ha : j < i * 2
      · rw [List.getElem?_append_left (by omega), List.getElem?_take, if_pos ha] at hu
        rw [World.cell?_setCells_out g _ _ _ _ (fun _ _ => by show j < _ ∨ _; omega), ← hW1, World.cell?_setCells_out g _ _ _ _ (fun _ _ => by show j < _ ∨ _; omega)]
        exact hcell j u hu
      · rw [List.getElem?_append_right (by omega), htl] at hu
        by_cases hb' : j < i * 2 + 2
        · rw [List.getElem?_append_left (by omega)] at hu
          have := World.cell?_setCells_in g (flC f) (i * 2) W1 (fun q hq => hs1 _ (by omega)) (j - i * 2) (by omega)
          rw [show i * 2 + (j - i * 2) = j by omega] at this
          rw [this, ← hu]; exact (List.getElem?_eq_getElem _).symm
        · rw [List.getElem?_append_right (by omega), hfl] at hu
          rw [World.cell?_setCells_out g _ _ _ _ (fun _ _ => by show j < _ ∨ _ ≤ j; omega), ← hW1]
          have hlt := (List.getElem?_eq_some_iff.1 hu).1
          have := World.cell?_setCells_in g (xs.drop (i * 2)) ((i + 1) * 2) w.drew (fun q hq => hsp _ (by omega)) (j - i * 2 - 2) hlt
          rw [show (i + 1) * 2 + (j - i * 2 - 2) = j by omega] at this
          rw [this, ← hu]; exact (List.getElem?_eq_getElem _).symm
  have HBE : Hid (Below base w (W1.setCells g (i * 2) (flC f))) := by
    rw [← hW1]
    exact below_setCells hb _ _ _ (below_setCells hb _ _ _ (Below.refl _ w).drew)
  clear hxs hh h4 hvb hcell hsp hfz hs1 hvc hW1
  go_enter Tryz.func50, Tryz.ntmps50
  go_wp2_with (simp only [hov])
  go_region_law (refine step_copy_run rfl _ _ 24 24 rfl _ _ (by simp [Act.eval, Act.put]) (by simp [Act.eval, Act.put]) (hcp1 _) ?_)
  go_wp2_with (at_builtin; refine wpList_copy_run _ rfl _ _ 24 24 rfl _ _ rfl rfl (hcp2 _) ?_)
  go_ret
  exact ⟨_, c, by rw [hln]; rfl, by rw [hln]; exact HFIN.out, HBE.out, by omega, h2⟩
set_option maxRecDepth 100000 in
set_option maxHeartbeats 4000000 in
theorem insF_grow (base g n i vb : Nat) (l : List Fl) (f : Fl) (w : World) (h0 : Sl w w.heap.size 2 (some ⟨g, 0, none⟩) n (flat flC l)) (hln : l.length = n) (hi : i < n) (hn : n ≤ 1000000) (hvb : Bk w vb 68 #[.string f.1, .string f.2]) (hbw : base ≤ w.heap.size) :
    Calls Tryz.prog 50 #[.slice (some ⟨g, 0, none⟩) n n, .int .i64 i, .slice (some ⟨vb, 0, none⟩) 1 1] w (InsFE base l i f w) := by
  obtain ⟨hxl, hform⟩ := h0
  obtain ⟨b', off', hv, hgw, hcell0⟩ := hform (by omega)
  injection hv with hv
  injection hv with hv1 hv2 hv3
  subst hv1; subst hv2
  obtain ⟨xs, hxs⟩ : ∃ xs, flat flC l = xs := ⟨_, rfl⟩
  have HONE : Hid (∀ u ∈ xs, u.oneCell' = true) := by rw [← hxs]; exact flC_one' l
  have HINS := Lib.hid (insL_cells l i f)
  rw [hxs] at hxl hcell0 HINS
  have hcell : ∀ j v, xs[j]? = some v → w.cell? ⟨g, j, none⟩ = some v := fun j v hj => by have := hcell0 j v hj; rwa [Nat.zero_add] at this
  have hdl : (xs.drop (i * 2)).length = (n - i) * 2 := by rw [List.length_drop]; omega
  have htl : (xs.take (i * 2)).length = i * 2 := by rw [List.length_take]; omega
  have hfl : (flC f).length = 2 := rfl
  have hvw : vb < w.heap.size := hvb.lt
  obtain ⟨i0, hii, hz0, hz1, hz2'⟩ := info_parts infoFlI
  have hold : (Builtin.firstCells i0.size i (.slice (some ⟨g, 0, none⟩) i n)).run Tryz.prog w.drew = .ok (xs.take (i * 2)).toArray w.drew := by
    rw [hz1]
    exact run_firstCells_some w.drew 2 i ⟨g, 0, none⟩ i n (xs.take (i * 2)) htl (fun j v hj => by
      rw [Addr.add_lit, Nat.zero_add]
      rw [List.getElem?_take] at hj
      split at hj
      · exact hcell j v hj
      · cases hj)
  have hik : i + (n + 1 - i) = n + 1 := by omega
  have hkk : (n : Int) + 1 - (i : Int) = ((n + 1 - i : Nat) : Int) := by omega
  have hrz : ∀ ty, (Builtin.append_ #[24, 3] ty #[.slice (some ⟨g, 0, none⟩) i n, .int .i64 ((n : Int) + 1 - (i : Int))]).run Tryz.prog w = .ok (.slice (some ⟨w.heap.size, 0, none⟩) (n + 1) (grownCap w (n + 1) n 68)) (w.drew.alloc (.cells ((xs.take (i * 2)).toArray ++ Builtin.zeroCells (Value.agg #[.string ⟨#[]⟩, .string ⟨#[]⟩]).cells (n + 1 - i) ++ Builtin.zeroCells (Value.agg #[.string ⟨#[]⟩, .string ⟨#[]⟩]).cells (grownCap w (n + 1) n 68 - (n + 1))) 68)) := fun ty => by
    have h := Lib.run_append_grow_zeros w 24 3 ty 68 i0 _ .i64 .i64 Tryz.underlying24 Tryz.underlying3 hii hz0 (some ⟨g, 0, none⟩) i n (xs.take (i * 2)) hold (n + 1 - i) (by omega) (by rw [hz1]; omega) (by omega) (by omega) (by rw [hz2']; omega) (by rw [hz2', hik]; exact growslice_fits (by omega) (by omega))
    rw [hik] at h
    rw [hkk]
    exact h
  have hGn := grownCap_ge w (n + 1) n 68
  have hGm := grownCap_le_maxLen w (n + 1) n 68 (by unfold maxLen; omega)
  obtain ⟨G, hG⟩ : ∃ G, grownCap w (n + 1) n 68 = G := ⟨_, rfl⟩
  rw [hG] at hrz hGn hGm
  obtain ⟨ROW, hROW⟩ : ∃ ROW : Array Value, (xs.take (i * 2)).toArray ++ Builtin.zeroCells (Value.agg #[.string ⟨#[]⟩, .string ⟨#[]⟩]).cells (n + 1 - i) ++ Builtin.zeroCells (Value.agg #[.string ⟨#[]⟩, .string ⟨#[]⟩]).cells (G - (n + 1)) = ROW := ⟨_, rfl⟩
  rw [hROW] at hrz
  have hRl : (n + 1) * 2 ≤ ROW.size := by
    rw [← hROW, Array.size_append, Array.size_append, size_zeroCells, size_zeroCells]
    show (n + 1) * 2 ≤ (xs.take (i * 2)).toArray.size + (n + 1 - i) * 2 + (G - (n + 1)) * 2
    rw [List.size_toArray, htl]; omega
  have hRt : ∀ j, j < i * 2 → ROW[j]? = xs[j]? := fun j hj => by
    rw [← hROW, Array.append_assoc, Array.getElem?_append_left (by rw [List.size_toArray, htl]; exact hj), List.getElem?_toArray, List.getElem?_take, if_pos hj]
  obtain ⟨W1, hW1⟩ : ∃ W1, w.drew.alloc (.cells ROW 68) = W1 := ⟨_, rfl⟩
  rw [hW1] at hrz
  have hb1 : Bk W1 w.heap.size 68 ROW := by rw [← hW1]; exact Bk.new w.drew _ _
  have hB1 : Below w.heap.size w W1 := by rw [← hW1]; exact (Below.refl _ w).drew.alloc (Nat.le_refl _) _
  have hs1 : ∀ k, k < (n + 1) * 2 → (W1.cell? ⟨w.heap.size, k, none⟩).isSome = true := fun k hk => by
    rw [hb1.cell, Array.getElem?_eq_getElem (by omega)]; rfl
  obtain ⟨W2, hW2⟩ : ∃ W2, W1.setCells w.heap.size (i * 2) (flC f) = W2 := ⟨_, rfl⟩
  have hcp1 : ∀ ty, (Builtin.copy_ #[24, 24] ty #[.slice (some ⟨w.heap.size, i * 2, none⟩) (n + 1 - i) (G - i), .slice (some ⟨vb, 0, none⟩) 1 1]).run Tryz.prog W1 = .ok (goInt 1) W2 := fun ty => by
    rw [← hW2]
    exact run_copy_k W1 24 24 ty 68 2 w.heap.size (i * 2) (n + 1 - i) (G - i) ⟨vb, 0, none⟩ 1 1 1 (flC f) Tryz.underlying24 sizeFl (by simp only [Nat.min_def]; split <;> omega) rfl
      (fun j v hj => by
        rw [Addr.add_lit]
        have hvk := hvb.below hB1 hvw
        rcases j with _ | _ | j
        · simp [flC] at hj; subst hj; simpa using hvk.cell 0
        · simp [flC] at hj; subst hj; simpa using hvk.cell 1
        · simp [flC] at hj)
      (fun j hj => hs1 _ (by rw [hfl] at hj; omega)) (fun j hj => hb1.free _) (fun v hv => by simp [flC] at hv; rcases hv with rfl | rfl <;> rfl)
  have hs2 : ∀ k, k < (n + 1) * 2 → (W2.cell? ⟨w.heap.size, k, none⟩).isSome = true := fun k hk => by
    rw [← hW2]
    exact some_setCells w.heap.size (flC f) (i * 2) W1 (fun j hj => hs1 _ (by rw [hfl] at hj; omega)) k (hs1 k hk)
  have hB2 : Below w.heap.size w W2 := by rw [← hW2]; exact below_setCells (Nat.le_refl _) _ _ _ hB1
  have hcp2 : ∀ ty, (Builtin.copy_ #[24, 24] ty #[.slice (some ⟨w.heap.size, (i + 1) * 2, none⟩) (n + 1 - (i + 1)) (G - (i + 1)), .slice (some ⟨g, i * 2, none⟩) (n - i) (n - i)]).run Tryz.prog W2.drew = .ok (goInt ((n - i : Nat) : Int)) (W2.drew.setCells w.heap.size ((i + 1) * 2) (xs.drop (i * 2))) := fun ty =>
    run_copy_k W2.drew 24 24 ty 68 2 w.heap.size ((i + 1) * 2) (n + 1 - (i + 1)) (G - (i + 1)) ⟨g, i * 2, none⟩ (n - i) (n - i) (n - i) (xs.drop (i * 2)) Tryz.underlying24 sizeFl (by simp only [Nat.min_def]; split <;> omega) hdl
      (fun j v hj => by
        rw [Addr.add_lit]
        exact (hB2.cell (p := ⟨g, i * 2 + j, none⟩) hgw).trans (hcell _ v (by rwa [List.getElem?_drop] at hj)))
      (fun j hj => hs2 _ (by rw [hdl] at hj; omega)) (fun j hj => by show W2.frozen? _ = false; rw [← hW2, World.frozen?_setCells]; exact hb1.free _) (fun v hv => HONE.out v (List.mem_of_mem_drop hv))
  have HFIN : Hid (Sl (W2.drew.setCells w.heap.size ((i + 1) * 2) (xs.drop (i * 2))) (W2.drew.setCells w.heap.size ((i + 1) * 2) (xs.drop (i * 2))).heap.size 2 (some ⟨w.heap.size, 0, none⟩) (n + 1) (flat flC (insL l i f))) := by
    refine ⟨by rw [flat_len flC_len, ← hln]; unfold insL; simp; omega, fun _ => ⟨w.heap.size, 0, rfl, ?_, fun j u hu => ?_⟩⟩
    · rw [size_setCells]
      show _ < W2.heap.size
      rw [← hW2, size_setCells]; exact hb1.lt
    · rw [HINS.out] at hu
      rw [Nat.zero_add]
      by_cases ha : j < i * 2
      · rw [List.getElem?_append_left (by omega), List.getElem?_take, if_pos ha] at hu
        rw [World.cell?_setCells_out w.heap.size _ _ _ _ (fun _ _ => by show j < _ ∨ _; omega)]
        show W2.cell? _ = _
        rw [← hW2, World.cell?_setCells_out w.heap.size _ _ _ _ (fun _ _ => by show j < _ ∨ _; omega), hb1.cell, hRt j ha]
        exact hu
      · rw [List.getElem?_append_right (by omega), htl] at hu
        by_cases hb' : j < i * 2 + 2
        · rw [List.getElem?_append_left (by omega)] at hu
          rw [World.cell?_setCells_out w.heap.size _ _ _ _ (fun _ _ => by show j < _ ∨ _; omega)]
          show W2.cell? _ = _
          rw [← hW2]
          have := World.cell?_setCells_in w.heap.size (flC f) (i * 2) W1 (fun q hq => hs1 _ (by rw [hfl] at hq; omega)) (j - i * 2) (by omega)
          rw [show i * 2 + (j - i * 2) = j by omega] at this
          rw [this, ← hu]; exact (List.getElem?_eq_getElem _).symm
        · rw [List.getElem?_append_right (by omega), hfl] at hu
          have hlt := (List.getElem?_eq_some_iff.1 hu).1
          have := World.cell?_setCells_in w.heap.size (xs.drop (i * 2)) ((i + 1) * 2) W2.drew (fun q hq => hs2 _ (by rw [hdl] at hq; omega)) (j - i * 2 - 2) hlt
          rw [show (i + 1) * 2 + (j - i * 2 - 2) = j by omega] at this
          rw [this, ← hu]; exact (List.getElem?_eq_getElem _).symm
  have HBE : Hid (Below base w (W2.drew.setCells w.heap.size ((i + 1) * 2) (xs.drop (i * 2)))) := below_setCells hbw _ _ _ (hB2.drew.mono hbw)
  have hz2 : ¬ ((i : Int) = (n : Int)) := by omega
  have hz3 : (n : Int) < (n : Int) + 1 := by omega
  have hw1 : IntKind.i64.wrap ((i : Int) + 1) = (i : Int) + 1 := by rw [IntKind.wrap_i64]; omega
  have hb1' : (0 : Int) ≤ (i : Int) + 1 := by omega
  have hin : i ≤ n := by omega
  have htn : ((i : Int) + 1).toNat = i + 1 := by omega
  have hb3 : (i : Int) ≤ (n : Int) := by omega
  have hGi : ¬ (G = i) := by omega
  have hGim : ¬ (G = i + 1) := by omega
  have hci : ¬ (n = i) := by omega
  have hG63 : G ≤ 9223372036854775807 := by unfold maxLen at hGm; exact hGm
  clear hxs hvb hcell hcell0 hold hik hkk hii hz0 hz1 hz2' hG hROW hRl hRt hW1 hb1 hB1 hs1 hs2 hW2 hB2
  go_enter Tryz.func50, Tryz.ntmps50
  go_wp2_with (first
    | (at_builtin; refine Lib.wpList_append_run _ rfl _ _ _ _ rfl _ _ rfl rfl _ _ (hrz _) ?_)
    | (at_builtin; refine wpList_copy_run _ rfl _ _ 24 24 rfl _ _ rfl rfl (hcp1 _) ?_))
  go_region_law (refine step_copy_run rfl _ _ 24 24 rfl _ _ (by simp [Act.eval, Act.put]) (by simp [Act.eval, Act.put]) (hcp2 _) ?_)
  go_wp2_with fail
  go_ret
  exact ⟨_, G, by rw [hln]; rfl, by rw [hln]; exact HFIN.out, HBE.out, by omega, hGm⟩
set_option maxRecDepth 100000 in
set_option maxHeartbeats 4000000 in
theorem insF_end (base n c vb : Nat) (A : Option Addr) (l : List Fl) (f : Fl) (w : World) (ho : w.ownsRow base 68 2 (.slice A n c) n (flat flC l)) (hln : l.length = n) (hn : n ≤ 1000000) (hvb : Bk w vb 68 #[.string f.1, .string f.2]) (hbw : base ≤ w.heap.size) :
    Calls Tryz.prog 50 #[.slice A n c, .int .i64 n, .slice (some ⟨vb, 0, none⟩) 1 1] w (InsFE base l n f w) := by
  have HO := Lib.hid ho
  have hnc := (ownsRow_form ho)
  obtain ⟨A', c', e1, hc1, hc2⟩ := hnc
  simp only [Value.slice.injEq, true_and] at e1
  obtain ⟨rfl, rfl⟩ := e1
  obtain ⟨i0, hi, hz0, hz1, hz2⟩ := info_parts infoFlI
  have Hi := Lib.hid hi; have Hz0 := Lib.hid hz0; have Hz1 := Lib.hid hz1; have Hz2 := Lib.hid hz2
  have HV : Hid (Sl w w.heap.size 2 (some ⟨vb, 0, none⟩) 1 (flC f)) := Sl.of_bk (n := 1) (size := 2) hvb rfl
  have HL : Hid (insL l n f = l ++ [f]) := by show _ = _; unfold insL; rw [List.take_of_length_le (by omega), List.drop_of_length_le (by omega)]
  have hc63 : c ≤ 9223372036854775807 := by unfold maxLen at hc2; exact hc2
  have HGE : Hid (∀ k, (Value.slice A n c).ownBlock = some k → base ≤ k) := fun k hk => ownBlock_ge ho k hk
  have HC2 := Lib.hid hc2
  clear ho hvb hi hz0 hz1 hz2
  have key : ∀ (A4 : Option Addr) (c4 : Nat) (w4 : World), w4.ownsRow base 68 2 (.slice A4 (n + 1) c4) (n + 1) (flat flC l ++ flC f) → w.grownBy w4 (Value.slice A n c).ownBlock → n + 1 ≤ c4 → c4 ≤ maxLen → InsFE base l n f w (.returned (.slice A4 (n + 1) c4)) w4 := fun A4 c4 w4 ho4 hg4 hc41 hc42 => by
    refine ⟨A4, c4, by rw [hln], ?_, (Below.refl base w).grown hg4 hbw (fun k hk => HGE.out k hk), by omega, hc42⟩
    rw [hln, HL.out]
    have e : flat flC (l ++ [f]) = flat flC l ++ flC f := by rw [flat_append]; simp [flat]
    rw [e]
    exact Sl.of_own ho4
  have HKEY := Lib.hid key
  clear key
  go_enter Tryz.func50, Tryz.ntmps50
  by_cases hcn : c = n
  case' pos => subst hcn
  all_goals
    go_wp2_with (at_builtin; refine halt_ ?_)
    refine unhalt ?_
    refine wpList_append_sl (base := base) (size := 2) _ rfl (.tmp 23) (.tmp 24) 24 rfl 68 i0 _ 32 Tryz.underlying24 Hi.out Hz0.out Hz1.out Hz2.out rfl (by decide) _ _ (flat flC l) rfl HO.out w.heap.size _ 1 1 (flC f) rfl HV.out (by simp [flC, Value.oneCell']) (by unfold maxLen; omega) (by omega) hbw ?_
    intro A4 c4 w4 ho4 hg4 hc41 hc42
    have HF := Lib.hid (HKEY.out A4 c4 w4 ho4 hg4 hc41 hc42)
    clear ho4 hg4
    go_wp2_with fail
    go_ret
    exact HF.out
end Go.Proofs.YtmdhlkkekidknaaGreatDoor

namespace Go.Proofs.YtmdhlkkekidknaaGreatDoor
open Go.RowKit Go.Shelf

theorem slashL_of {l : List UInt8} {i : Nat} (h1 : l[i]? = some 47) (h2 : ∀ j, j < i → l[j]? ≠ some 47) : slashL l = i :=
  slashL_at h2 (Nat.le_of_lt (List.getElem?_eq_some_iff.1 h1).1) (.inr h1)
theorem slashL_no {l : List UInt8} (h : ∀ c ∈ l, c ≠ 47) : slashL l = l.length :=
  slashL_at (fun _ _ e => h 47 (List.mem_of_getElem? e) rfl) (Nat.le_refl _) (.inl rfl)
set_option maxRecDepth 100000 in
set_option maxHeartbeats 1000000 in
theorem cutLite_any (s : ByteArray) (w : World) (hs : s.size ≤ maxLen) : Calls Tryz.prog 127 #[.string s, .string ⟨#[47]⟩] w (CutEnd s w) := by
  have hs' : s.size ≤ 9223372036854775807 := by unfold maxLen at hs; exact hs
  have HX := Lib.hid (Tryz.stringslite_Index_one s 47 w)
  by_cases hi : Lib.indexByte s.data.toList 47 = -1
  · have HN : Hid (CutR s s ⟨#[]⟩ false) := by
      have : slashL (bl s) = s.size := slashL_no (fun c hc e => by
        obtain ⟨j, hj, e'⟩ := List.getElem_of_mem hc
        exact Lib.indexByte_none hi j (by rw [← e, ← e']; exact List.getElem?_eq_getElem _))
      exact .inr ⟨this, rfl, rfl, rfl⟩
    rw [hi] at HX
    clear hi
    go_enter Tryz.func127, Tryz.ntmps127
    go_wp2_with fail
    refine HX.out.mono ?_
    rintro e w1 ⟨rfl, rfl⟩
    go_wp2_with fail
    go_ret3
    exact ⟨_, _, _, rfl, HN.out, Below.refl _ _⟩
  · obtain ⟨i, hi'⟩ : ∃ i : Nat, Lib.indexByte s.data.toList 47 = i := ⟨(Lib.indexByte s.data.toList 47).toNat, by have := Lib.indexByte_ge s.data.toList 47; omega⟩
    obtain ⟨h1, h2⟩ := Lib.indexByte_some hi'
    have hil : i < s.size := by rw [size_len]; exact (List.getElem?_eq_some_iff.1 h1).1
    have HN : Hid (CutR s (s.extract 0 i) (s.extract (i + 1) s.size) true) := by
      have e : slashL (bl s) = i := slashL_of h1 h2
      exact .inl ⟨by rw [e]; exact hil, by rw [e], by rw [e], rfl⟩
    rw [hi'] at HX
    clear hi hi' h1 h2
    go_enter Tryz.func127, Tryz.ntmps127
    go_wp2_with fail
    refine HX.out.mono ?_
    rintro e w1 ⟨rfl, rfl⟩
    have hi0 : (0 : Int) ≤ (i : Int) := by omega
    go_wp2_with fail
    go_quiet (fail)
    go_wp2_with fail
    go_ret3
    exact ⟨_, _, _, rfl, HN.out, below_drewN (Below.refl _ _) _⟩
set_option maxHeartbeats 1000000 in
theorem cut_any (s : ByteArray) (w : World) (hs : s.size ≤ maxLen) : Calls Tryz.prog 87 #[.string s, .string ⟨#[47]⟩] w (CutEnd s w) := by
  have HX := Lib.hid (cutLite_any s w hs)
  go_enter Tryz.func87, Tryz.ntmps87
  go_wp2_with fail
  refine HX.out.mono ?_
  rintro e w1 ⟨a, b, m, rfl, hc, hb⟩
  have HC := Lib.hid hc; have HB := Lib.hid hb; clear hc hb
  go_wp2_with fail
  go_ret3
  exact ⟨_, _, _, rfl, HC.out, HB.out⟩
end Go.Proofs.YtmdhlkkekidknaaGreatDoor

namespace Go.Proofs.YtmdhlkkekidknaaGreatDoor
open Go.RowKit

theorem slashL_dec : ∀ l : List UInt8, slashL l < l.length → l = l.take (slashL l) ++ 47 :: l.drop (slashL l + 1)
  | [], h => by simp at h
  | c :: r, h => by
    by_cases hc : c = 47
    · subst hc; simp [slashL]
    · simp only [slashL, if_neg hc] at h ⊢
      have := slashL_dec r (by simpa using h)
      simpa using this
theorem slashL_pre : ∀ l : List UInt8, ∀ c ∈ l.take (slashL l), c ≠ 47
  | [], c, h => by simp at h
  | d :: r, c, h => by
    by_cases hd : d = 47
    · subst hd; simp [slashL] at h
    · simp only [slashL, if_neg hd, List.take_succ_cons, List.mem_cons] at h
      rcases h with rfl | h
      · exact hd
      · exact slashL_pre r c h
theorem bl_ext (s : ByteArray) (a b : Nat) : bl (s.extract a b) = ((bl s).take b).drop a := by
  unfold bl; rw [extract_list, List.drop_take]
theorem bl_size (s : ByteArray) : (bl s).length = s.size := rfl
def cutP (s : ByteArray) : ByteArray × ByteArray × Bool := if slashL (bl s) < s.size then (s.extract 0 (slashL (bl s)), s.extract (slashL (bl s) + 1) s.size, true) else (s, ⟨#[]⟩, false)
def fsN (s : ByteArray) : ByteArray := (cutP s).1
def rsN (s : ByteArray) : ByteArray := (cutP s).2.1
def deN (s : ByteArray) : Bool := (cutP s).2.2
theorem cutR_eq {s a b : ByteArray} {m : Bool} (h : CutR s a b m) : a = fsN s ∧ b = rsN s ∧ m = deN s := by
  unfold fsN rsN deN cutP
  rcases h with ⟨h, rfl, rfl, rfl⟩ | ⟨h, rfl, rfl, rfl⟩
  · rw [if_pos h]; exact ⟨rfl, rfl, rfl⟩
  · rw [if_neg (by omega)]; exact ⟨rfl, rfl, rfl⟩
theorem cut_deep {s : ByteArray} (h : deN s = true) : bl s = bl (fsN s) ++ 47 :: bl (rsN s) := by
  unfold deN fsN rsN cutP at *
  split at h
  · rename_i hl
    rw [if_pos hl]
    simp only
    rw [bl_ext, bl_ext, List.take_of_length_le (i := s.size) (by rw [bl_size]; exact Nat.le_refl _), List.drop_zero]
    exact slashL_dec _ hl
  · cases h
theorem cut_flat {s : ByteArray} (h : deN s = false) : fsN s = s := by
  unfold deN fsN cutP at *
  split at h
  · cases h
  · rename_i hl; rw [if_neg hl]
theorem fsN_nosl (s : ByteArray) : NoSl (fsN s) := by
  unfold fsN cutP
  split
  · rename_i hl
    intro c hc
    simp only at hc
    rw [bl_ext, List.drop_zero] at hc
    exact slashL_pre _ c hc
  · rename_i hl
    intro c hc
    simp only at hc
    have : (bl s).take (slashL (bl s)) = bl s := List.take_of_length_le (by rw [bl_size]; omega)
    rw [← this] at hc
    exact slashL_pre _ c hc
theorem cut_of {s a b : ByteArray} (h : bl s = bl a ++ 47 :: bl b) (hn : NoSl a) : fsN s = a ∧ rsN s = b ∧ deN s = true := by
  have hd : deN s = true := by
    cases hd : deN s with
    | true => rfl
    | false =>
      have := cut_flat hd
      have hs := fsN_nosl s
      rw [this] at hs
      exact absurd rfl (hs 47 (by rw [h]; simp))
  have h2 := cut_deep hd
  rw [h] at h2
  obtain ⟨e1, e2⟩ := name_eq hn (fsN_nosl s) (.inr ⟨_, rfl⟩) (.inr ⟨_, rfl⟩) h2
  exact ⟨e1.symm, (bl_inj (List.cons.inj e2).2).symm, hd⟩
theorem cut_no {s : ByteArray} (hn : NoSl s) : fsN s = s ∧ deN s = false := by
  have hd : deN s = false := by
    cases hd : deN s with
    | false => rfl
    | true =>
      have := cut_deep hd
      exact absurd rfl (hn 47 (by rw [this]; simp))
  exact ⟨cut_flat hd, hd⟩
theorem pathB_iff (s : ByteArray) : pathB s = true ↔ s.size ≤ 100 ∧ ∀ l ∈ splitS (bl s), nameL l = true := by
  unfold pathB; rw [Bool.and_eq_true, decide_eq_true_eq, List.all_eq_true]; rfl
theorem splitS_cut (s : ByteArray) : splitS (bl s) = if deN s = true then bl (fsN s) :: splitS (bl (rsN s)) else [bl s] := by
  rw [splitS_slash]
  unfold deN fsN rsN cutP
  by_cases h : slashL (bl s) < s.size
  · rw [if_pos (by rw [bl_size]; exact h), if_pos h]
    simp only
    rw [if_pos trivial, bl_ext, bl_ext, List.take_of_length_le (i := s.size) (by rw [bl_size]; exact Nat.le_refl _), List.drop_zero]
  · rw [if_neg (by rw [bl_size]; exact h), if_neg h]
    simp
theorem path_name {s : ByteArray} (h : pathB s = true) : nameB (fsN s) = true := by
  have h2 := ((pathB_iff s).1 h).2
  rw [splitS_cut] at h2
  cases hd : deN s with
  | true => rw [hd, if_pos rfl] at h2; exact h2 _ (by simp)
  | false => rw [hd] at h2; rw [cut_flat hd]; exact h2 _ (by simp)
theorem path_rest {s : ByteArray} (h : pathB s = true) (hd : deN s = true) : pathB (rsN s) = true ∧ (rsN s).size < s.size := by
  have h1 := (pathB_iff s).1 h
  have h2 := h1.2
  rw [splitS_cut, hd, if_pos rfl] at h2
  have hl := congrArg List.length (cut_deep hd)
  simp only [List.length_append, List.length_cons] at hl
  have hz : (rsN s).size < s.size := by rw [← bl_size, ← bl_size]; omega
  exact ⟨(pathB_iff _).2 ⟨by omega, fun l hl => h2 l (by simp [hl])⟩, hz⟩
theorem path_len {s : ByteArray} (h : pathB s = true) : s.size ≤ 100 := ((pathB_iff s).1 h).1
theorem belB_iff (d p : ByteArray) : belB d p = true ↔ ∃ r, bl p = bl d ++ 47 :: r := by
  unfold belB
  simp only [Bool.and_eq_true, decide_eq_true_eq]
  constructor
  · rintro ⟨h1, h2, h3⟩
    refine ⟨(bl p).drop (d.size + 1), ?_⟩
    have hk := List.getElem?_eq_some_iff.1 h3
    have e : bl d = (bl p).take d.size := by rw [← h2, bl_ext, List.drop_zero, h2]
    rw [e, ← hk.2, ← List.drop_eq_getElem_cons hk.1, List.take_append_drop]
  · rintro ⟨r, h⟩
    have hl := congrArg List.length h
    simp only [List.length_append, List.length_cons, bl_size] at hl
    refine ⟨by omega, ?_, ?_⟩
    · apply bl_inj
      rw [bl_ext, h, List.drop_zero, List.take_append_of_le_length (by rw [bl_size]; exact Nat.le_refl _), List.take_of_length_le (by rw [bl_size]; exact Nat.le_refl _)]
    · rw [h, List.getElem?_append_right (by rw [bl_size]; exact Nat.le_refl _), bl_size]; simp

structure OkL (l : List Fl) : Prop where
  path : ∀ f ∈ l, pathB f.1 = true
  data : ∀ f ∈ l, f.2.size ≤ 60000
  few : l.length ≤ 200
  nod : (l.map Prod.fst).Nodup
  nob : ∀ f ∈ l, ∀ g ∈ l, belB f.1 g.1 = false
def inD (l : List Fl) (n : ByteArray) : List Fl := (l.filter (fun f => deN f.1 && decide (fsN f.1 = n))).map (fun f => (rsN f.1, f.2))
theorem mem_inD {l : List Fl} {n : ByteArray} {f : Fl} : f ∈ inD l n ↔ ∃ g ∈ l, deN g.1 = true ∧ fsN g.1 = n ∧ f = (rsN g.1, g.2) := by
  unfold inD
  rw [List.mem_map]
  constructor
  · rintro ⟨g, hg, rfl⟩
    rw [List.mem_filter, Bool.and_eq_true, decide_eq_true_eq] at hg
    exact ⟨g, hg.1, hg.2.1, hg.2.2, rfl⟩
  · rintro ⟨g, hg, h1, h2, rfl⟩
    exact ⟨g, by rw [List.mem_filter, Bool.and_eq_true, decide_eq_true_eq]; exact ⟨hg, h1, h2⟩, rfl⟩
theorem cut_eq {s t : ByteArray} (hs : deN s = true) (ht : deN t = true) (h1 : fsN s = fsN t) (h2 : rsN s = rsN t) : s = t := by
  apply bl_inj
  rw [cut_deep hs, cut_deep ht, h1, h2]
theorem inD_len (l : List Fl) (n : ByteArray) : (inD l n).length ≤ l.length := by
  unfold inD; rw [List.length_map]; exact List.length_filter_le _ _
theorem OkL.sub {l : List Fl} (h : OkL l) (n : ByteArray) : OkL (inD l n) where
  path f hf := by
    obtain ⟨g, hg, h1, _, rfl⟩ := mem_inD.1 hf
    exact (path_rest (h.path g hg) h1).1
  data f hf := by
    obtain ⟨g, hg, _, _, rfl⟩ := mem_inD.1 hf
    exact h.data g hg
  few := Nat.le_trans (inD_len l n) h.few
  nod := by
    unfold inD
    rw [List.map_map]
    have h1 : (l.filter (fun f => deN f.1 && decide (fsN f.1 = n))).Pairwise (fun a b => a.1 ≠ b.1) := by
      have := h.nod
      unfold List.Nodup at this
      rw [List.pairwise_map] at this
      exact this.filter _
    unfold List.Nodup
    rw [List.pairwise_map]
    refine h1.imp_of_mem ?_
    intro a b ha hb hab he
    rw [List.mem_filter, Bool.and_eq_true, decide_eq_true_eq] at ha hb
    exact hab (cut_eq ha.2.1 hb.2.1 (ha.2.2.trans hb.2.2.symm) he)
  nob f hf g hg := by
    obtain ⟨f', hf', h1, h2, rfl⟩ := mem_inD.1 hf
    obtain ⟨g', hg', h3, h4, rfl⟩ := mem_inD.1 hg
    rw [Bool.eq_false_iff]
    intro hb
    obtain ⟨r, hr⟩ := (belB_iff _ _).1 hb
    have := h.nob f' hf' g' hg'
    rw [Bool.eq_false_iff] at this
    refine this ((belB_iff _ _).2 ⟨r, ?_⟩)
    rw [cut_deep h1, cut_deep h3, h2, h4, hr]; simp
def nmsP (l : List Fl) : List ByteArray := l.foldl (fun a f => insS a (fsN f.1)) []
theorem nms_gen (l : List Fl) : ∀ a : List ByteArray, Asc a → Asc (l.foldl (fun a f => insS a (fsN f.1)) a) ∧ ∀ x, x ∈ l.foldl (fun a f => insS a (fsN f.1)) a ↔ x ∈ a ∨ ∃ f ∈ l, x = fsN f.1 := by
  induction l with
  | nil => intro a h; exact ⟨h, fun x => by simp⟩
  | cons f l ih =>
    intro a h
    rw [List.foldl_cons]
    obtain ⟨h1, h2⟩ := ih (insS a (fsN f.1)) (asc_insS _ h)
    refine ⟨h1, fun x => ?_⟩
    rw [h2, mem_insS]
    simp only [List.mem_cons]
    constructor
    · rintro ((h | h) | ⟨g, hg, h⟩)
      · exact .inl h
      · exact .inr ⟨f, .inl rfl, h⟩
      · exact .inr ⟨g, .inr hg, h⟩
    · rintro (h | ⟨g, rfl | hg, h⟩)
      · exact .inl (.inl h)
      · exact .inl (.inr h)
      · exact .inr ⟨g, hg, h⟩
theorem nms_asc (l : List Fl) : Asc (nmsP l) := (nms_gen l [] List.Pairwise.nil).1
theorem nms_mem {l : List Fl} {x : ByteArray} : x ∈ nmsP l ↔ ∃ f ∈ l, x = fsN f.1 := by
  unfold nmsP; rw [(nms_gen l [] List.Pairwise.nil).2 x]; simp
theorem insS_len (a : List ByteArray) (s : ByteArray) : (insS a s).length ≤ a.length + 1 := by
  by_cases h : a[posS a s]? = some s
  · rw [insS_has h]; omega
  · rw [insS_new h]; simp; omega
theorem nms_len (l : List Fl) : (nmsP l).length ≤ l.length := by
  have : ∀ (l : List Fl) (a : List ByteArray), (l.foldl (fun a f => insS a (fsN f.1)) a).length ≤ a.length + l.length := by
    intro l
    induction l with
    | nil => intro a; simp
    | cons f l ih => intro a; rw [List.foldl_cons]; have := ih (insS a (fsN f.1)); have := insS_len a (fsN f.1); simp only [List.length_cons]; omega
  have := this l []
  simpa [nmsP] using this
def lookF9 (l : List Fl) (n : ByteArray) : Option ByteArray := (l.find? (fun f => decide (f.1 = n))).map Prod.snd
theorem look9_some {l : List Fl} (hn : (l.map Prod.fst).Nodup) {n s : ByteArray} : lookF9 l n = some s ↔ (n, s) ∈ l := by
  unfold lookF9
  induction l with
  | nil => simp
  | cons f l ih =>
    rw [List.map_cons, List.nodup_cons] at hn
    by_cases e : f.1 = n
    · rw [List.find?_cons_of_pos (by simpa using e)]
      simp only [Option.map_some, Option.some.injEq, List.mem_cons]
      constructor
      · rintro rfl; left; rw [← e]
      · rintro (h | h)
        · rw [← h]
        · exact absurd (List.mem_map_of_mem (f := Prod.fst) h) (by rw [← e] ; exact hn.1)
    · rw [List.find?_cons_of_neg (by simpa using e), ih hn.2, List.mem_cons]
      exact ⟨.inr, fun h => h.resolve_left (fun h => e (by rw [← h]))⟩
theorem look9_none {l : List Fl} {n : ByteArray} : lookF9 l n = none ↔ ∀ f ∈ l, f.1 ≠ n := by
  unfold lookF9
  rw [Option.map_eq_none_iff, List.find?_eq_none]
  simp
def blobO (s : ByteArray) : Ob := ⟨1, s, [], zD, [], ⟨#[]⟩, 0, ⟨#[]⟩⟩
def treeO (es : List Ent) : Ob := ⟨2, ⟨#[]⟩, es, zD, [], ⟨#[]⟩, 0, ⟨#[]⟩⟩
theorem noC_zero (k : Int) (d : ByteArray) (es : List Ent) : NoC ⟨k, d, es, zD, [], ⟨#[]⟩, 0, ⟨#[]⟩⟩ := ⟨rfl, rfl, rfl, rfl, rfl⟩
theorem okO_blob {s : ByteArray} (h : s.size ≤ 60000) : OkO (blobO s) where
  f := .blob (.inl rfl) rfl (noC_zero _ _ _) (by show s.size ≤ _; omega)
  len := by
    show (encN 1 ++ encT (toL s)).length ≤ 65536
    unfold encT
    rw [size_toL] at h
    have h1 := encN_len 5 1 (by omega)
    have h2 := encN_len 5 (toL s).length (by omega)
    simp only [List.length_append]; omega
theorem encEs_len : ∀ {es : List Ent}, (∀ e ∈ es, OkEnt e) → (es.flatMap encE).length ≤ 52 * es.length
  | [], _ => by simp
  | e :: es, h => by
    have ih := encEs_len (es := es) (fun x hx => h x (by simp [hx]))
    have hn := nameB_size (h e (by simp)).nm
    rw [size_toL] at hn
    have h1 := encN_len 5 (toL e.nm).length (by omega)
    have h2 := encN_len 5 (if e.dir = true then 1 else 0) (by split <;> omega)
    rw [List.flatMap_cons, List.length_append, List.length_cons]
    have : (encE e).length ≤ 52 := by
      unfold encE encT
      simp only [List.length_append, digB_len]; omega
    omega
theorem okO_treeO {es : List Ent} (h : OkEs es) : OkO (treeO es) where
  f := .tree rfl rfl (noC_zero _ _ _) h
  len := by
    show (encN 2 ++ encB (treeO es)).length ≤ 65536
    have h1 := encN_len 5 2 (by omega)
    have h2 := encN_len 5 es.length (by have := h.few; omega)
    have h3 := encEs_len h.all
    have h4 := h.few
    have : encB (treeO es) = encN es.length ++ es.flatMap encE := by unfold encB; exact if_pos rfl
    rw [this]
    simp only [List.length_append]; omega
theorem u64_rng (x : Int) : 0 ≤ IntKind.u64.wrap x ∧ IntKind.u64.wrap x < 18446744073709551616 := by
  have e : IntKind.u64.wrap x = x % 18446744073709551616 := rfl
  rw [e]
  omega
theorem dgF_rng {g : Int → Int → Int} (hg : ∀ a b, 0 ≤ g a b ∧ g a b < 18446744073709551616) (l : Bytes) : 0 ≤ dgF g l ∧ dgF g l < 18446744073709551616 := by
  unfold dgF
  have : ∀ (l : Bytes) (z : Int), 0 ≤ z ∧ z < 18446744073709551616 → 0 ≤ l.foldl (fun h b => g h (IntKind.u64.wrap (b.toNat : Int))) z ∧ l.foldl (fun h b => g h (IntKind.u64.wrap (b.toNat : Int))) z < 18446744073709551616 := by
    intro l
    induction l with
    | nil => intro z h; exact h
    | cons c l ih => intro z _; exact ih _ (hg _ _)
  exact this l _ ⟨by decide, by decide⟩
theorem wf_ofB (l : Bytes) : WfD (ofB l) := by
  have h1 := dgF_rng (g := dg1) (fun a b => u64_rng _) l
  have h2 := dgF_rng (g := dg2) (fun a b => u64_rng _) l
  unfold ofB WfD
  split
  · exact ⟨by decide, by decide, by decide, by decide⟩
  · exact ⟨h1.1, h1.2, h2.1, h2.2⟩
theorem ofB_nz (l : Bytes) : ofB l ≠ zD := by
  unfold ofB zD
  split
  · decide
  · rename_i h
    intro e
    rw [Prod.mk.injEq] at e
    exact h e
def wt (l : List Fl) : Nat := (l.map (fun f => f.1.size + 1)).sum
def selN (l : List Fl) (n : ByteArray) : List Fl := l.filter (fun f => decide (fsN f.1 = n))
def remN (l : List Fl) (ns : List ByteArray) : List Fl := l.filter (fun f => !memB ns (fsN f.1))
theorem wt_cons (f : Fl) (l : List Fl) : wt (f :: l) = f.1.size + 1 + wt l := by simp [wt]
theorem memB_snoc (ns : List ByteArray) (n x : ByteArray) : memB (ns ++ [n]) x = (memB ns x || decide (x = n)) := by
  rw [Bool.eq_iff_iff, memB_iff, Bool.or_eq_true, memB_iff, List.mem_append, List.mem_singleton, decide_eq_true_eq]
theorem wt_split (l : List Fl) {ns : List ByteArray} {n : ByteArray} (hn : n ∉ ns) : wt (remN l ns) = wt (remN l (ns ++ [n])) + wt (selN l n) := by
  induction l with
  | nil => rfl
  | cons f l ih =>
    unfold remN selN at *
    by_cases h2 : fsN f.1 = n
    · have h1 : memB ns (fsN f.1) = false := by rw [Bool.eq_false_iff]; intro h; exact hn (by rw [← h2]; exact (memB_iff _ _).1 h)
      rw [List.filter_cons_of_pos (by simp [h1]), List.filter_cons_of_neg (by rw [memB_snoc]; simp [h2]), List.filter_cons_of_pos (by simpa using h2), wt_cons, wt_cons, ih]; omega
    · cases h1 : memB ns (fsN f.1) with
      | true => rw [List.filter_cons_of_neg (by simp [h1]), List.filter_cons_of_neg (by rw [memB_snoc]; simp [h1]), List.filter_cons_of_neg (by simpa using h2), ih]
      | false => rw [List.filter_cons_of_pos (by simp [h1]), List.filter_cons_of_pos (by rw [memB_snoc]; simp [h1, h2]), List.filter_cons_of_neg (by simpa using h2), wt_cons, wt_cons, ih]; omega
theorem wt_sub (l : List Fl) (n : ByteArray) : wt (inD l n) + (inD l n).length ≤ wt (selN l n) := by
  induction l with
  | nil => simp [inD, wt]
  | cons f l ih =>
    unfold inD selN at *
    by_cases h2 : fsN f.1 = n
    · rw [List.filter_cons_of_pos (p := fun f : Fl => decide (fsN f.1 = n)) (by simpa using h2), wt_cons]
      cases hd : deN f.1 with
      | true =>
        rw [List.filter_cons_of_pos (by simp [hd, h2]), List.map_cons, wt_cons, List.length_cons]
        have hl := congrArg List.length (cut_deep hd)
        simp only [List.length_append, List.length_cons, bl_size] at hl
        simp only
        omega
      | false =>
        rw [List.filter_cons_of_neg (by simp [hd])]
        omega
    · rw [List.filter_cons_of_neg (p := fun f : Fl => decide (fsN f.1 = n)) (by simpa using h2), List.filter_cons_of_neg (by simp [h2])]
      exact ih
theorem wt_mem {l : List Fl} {f : Fl} (h : f ∈ l) : 1 ≤ wt l := by
  induction l with
  | nil => cases h
  | cons g l ih => rw [wt_cons]; omega
theorem wt_all (l : List Fl) : wt (remN l []) = wt l := by
  unfold remN; rw [List.filter_eq_self.2 (fun f _ => by simp [memB])]
theorem wt_le {l : List Fl} {k : Nat} (h : ∀ f ∈ l, f.1.size ≤ k) : wt l ≤ (k + 1) * l.length := by
  induction l with
  | nil => simp [wt]
  | cons f l ih =>
    rw [wt_cons, List.length_cons, Nat.mul_succ]
    have := ih (fun g hg => h g (by simp [hg]))
    have := h f (by simp)
    omega
theorem putP_len {p q : List Itm} {o : Ob} (h : putP p o = some q) : q.length ≤ p.length + 1 := insP_len h
noncomputable def stoE (g : List Itm → List Fl → Option (List Itm × Dig)) (l : List Fl) : List Itm → List ByteArray → List Ent → Option (List Itm × List Ent)
  | p, [], es => some (p, es)
  | p, n :: r, es => match lookF9 l n with
    | some s => match putP p (blobO s) with
      | none => none
      | some q => stoE g l q r (es ++ [⟨n, false, dgO (blobO s)⟩])
    | none => match g p (inD l n) with
      | none => none
      | some (q, d) => stoE g l q r (es ++ [⟨n, true, d⟩])
noncomputable def sto : Nat → List Itm → List Fl → Option (List Itm × Dig)
  | 0, _, _ => none
  | k + 1, p, l => match stoE (sto k) l p (nmsP l) [] with
    | none => none
    | some (q, es) => match putP q (treeO es) with
      | none => none
      | some r => some (r, dgO (treeO es))
theorem stoE_file {g : List Itm → List Fl → Option (List Itm × Dig)} {l : List Fl} {p q : List Itm} {n s : ByteArray} {r : List ByteArray} {es : List Ent} (h : lookF9 l n = some s) (hp : putP p (blobO s) = some q) :
    stoE g l p (n :: r) es = stoE g l q r (es ++ [⟨n, false, dgO (blobO s)⟩]) := by rw [stoE, h]; simp only [hp]
theorem stoE_filex {g : List Itm → List Fl → Option (List Itm × Dig)} {l : List Fl} {p : List Itm} {n s : ByteArray} {r : List ByteArray} {es : List Ent} (h : lookF9 l n = some s) (hp : putP p (blobO s) = none) :
    stoE g l p (n :: r) es = none := by rw [stoE, h]; simp only [hp]
theorem stoE_dir {g : List Itm → List Fl → Option (List Itm × Dig)} {l : List Fl} {p q : List Itm} {d : Dig} {n : ByteArray} {r : List ByteArray} {es : List Ent} (h : lookF9 l n = none) (hp : g p (inD l n) = some (q, d)) :
    stoE g l p (n :: r) es = stoE g l q r (es ++ [⟨n, true, d⟩]) := by rw [stoE, h]; simp only [hp]
theorem stoE_dirx {g : List Itm → List Fl → Option (List Itm × Dig)} {l : List Fl} {p : List Itm} {n : ByteArray} {r : List ByteArray} {es : List Ent} (h : lookF9 l n = none) (hp : g p (inD l n) = none) :
    stoE g l p (n :: r) es = none := by rw [stoE, h]; simp only [hp]
structure StoAt (k : Nat) (l : List Fl) (p0 : List Itm) (j : Nat) (p : List Itm) (es : List Ent) : Prop where
  eq : stoE (sto k) l p0 (nmsP l) [] = stoE (sto k) l p ((nmsP l).drop j) es
  ok : PlOk p
  nm : es.map Ent.nm = (nmsP l).take j
  all : ∀ e ∈ es, OkEnt e
  sub : subP p0 p
  len : p.length + wt (remN l ((nmsP l).take j)) ≤ p0.length + wt l
theorem StoAt.start {k : Nat} {l : List Fl} {p : List Itm} (h : PlOk p) : StoAt k l p 0 p [] := ⟨rfl, h, rfl, (fun e he => by cases he), subP.refl _, by rw [List.take_zero, wt_all]; omega⟩
theorem rem_step {l : List Fl} {j : Nat} {n : ByteArray} (hn : (nmsP l)[j]? = some n) : wt (remN l ((nmsP l).take j)) = wt (remN l ((nmsP l).take (j + 1))) + wt (selN l n) := by
  rw [take_snoc hn]
  refine wt_split l ?_
  intro hm
  have hnd := (nms_asc l).nodup
  obtain ⟨i, hi, e⟩ := List.getElem_of_mem hm
  rw [List.length_take] at hi
  rw [List.getElem_take] at e
  obtain ⟨h1, h2⟩ := List.getElem?_eq_some_iff.1 hn
  exact List.pairwise_iff_getElem.1 hnd i j (by omega) h1 (by omega) (e.trans h2.symm)
theorem StoAt.drop {k : Nat} {l : List Fl} {p0 p : List Itm} {j : Nat} {es : List Ent} (h : StoAt k l p0 j p es) {n : ByteArray} (hn : (nmsP l)[j]? = some n) : stoE (sto k) l p0 (nmsP l) [] = stoE (sto k) l p (n :: (nmsP l).drop (j + 1)) es := by
  rw [h.eq, drop_at hn]
theorem nm_ok {l : List Fl} (hl : OkL l) {j : Nat} {n : ByteArray} (hn : (nmsP l)[j]? = some n) : nameB n = true := by
  obtain ⟨f, hf, rfl⟩ := nms_mem.1 (List.mem_of_getElem? hn)
  exact path_name (hl.path f hf)
theorem StoAt.file {k : Nat} {l : List Fl} {p0 p q : List Itm} {j : Nat} {es : List Ent} (h : StoAt k l p0 j p es) (hl : OkL l) {n s : ByteArray} (hn : (nmsP l)[j]? = some n) (hs : lookF9 l n = some s) (hp : putP p (blobO s) = some q) :
    StoAt k l p0 (j + 1) q (es ++ [⟨n, false, dgO (blobO s)⟩]) where
  eq := by rw [h.drop hn, stoE_file hs hp]
  ok := putP_ok h.ok (okO_blob (hl.data _ ((look9_some hl.nod).1 hs))) hp
  nm := by rw [List.map_append, h.nm, take_snoc hn]; rfl
  all e he := by
    rcases List.mem_append.1 he with he | he
    · exact h.all e he
    · rw [List.mem_singleton] at he; subst he
      exact ⟨nm_ok hl hn, wf_ofB _, ofB_nz _⟩
  sub := h.sub.trans (putP_sub h.ok hp)
  len := by
    have h1 := h.len
    rw [rem_step hn] at h1
    have h2 := putP_len hp
    have hm := (look9_some hl.nod).1 hs
    obtain ⟨f, _, e⟩ := nms_mem.1 (List.mem_of_getElem? hn)
    have h3 : 1 ≤ wt (selN l n) := wt_mem (f := (n, s)) (List.mem_filter.2 ⟨hm, by rw [decide_eq_true_eq]; show fsN n = n; rw [e]; exact (cut_no (fsN_nosl _)).1⟩)
    omega
theorem StoAt.filex {k : Nat} {l : List Fl} {p0 p : List Itm} {j : Nat} {es : List Ent} (h : StoAt k l p0 j p es) {n s : ByteArray} (hn : (nmsP l)[j]? = some n) (hs : lookF9 l n = some s) (hp : putP p (blobO s) = none) :
    sto (k + 1) p0 l = none := by rw [sto, h.drop hn, stoE_filex hs hp]
structure StoR (p q : List Itm) (d : Dig) (l : List Fl) : Prop where
  ok : PlOk q
  sub : subP p q
  wf : WfD d
  nz : d ≠ zD
  len : q.length ≤ p.length + wt l + 1
theorem StoAt.dir {k : Nat} {l : List Fl} {p0 p q : List Itm} {j : Nat} {es : List Ent} (h : StoAt k l p0 j p es) (hl : OkL l) {n : ByteArray} {d : Dig} (hn : (nmsP l)[j]? = some n) (hs : lookF9 l n = none) (hp : sto k p (inD l n) = some (q, d)) (hr : StoR p q d (inD l n)) (hne : inD l n ≠ []) :
    StoAt k l p0 (j + 1) q (es ++ [⟨n, true, d⟩]) where
  eq := by rw [h.drop hn, stoE_dir hs hp]
  ok := hr.ok
  nm := by rw [List.map_append, h.nm, take_snoc hn]; rfl
  all e he := by
    rcases List.mem_append.1 he with he | he
    · exact h.all e he
    · rw [List.mem_singleton] at he; subst he
      exact ⟨nm_ok hl hn, hr.wf, hr.nz⟩
  sub := h.sub.trans hr.sub
  len := by
    have h1 := h.len
    rw [rem_step hn] at h1
    have h2 := hr.len
    have h3 := wt_sub l n
    have h4 : 0 < (inD l n).length := List.length_pos_iff.2 hne
    omega
theorem StoAt.dirx {k : Nat} {l : List Fl} {p0 p : List Itm} {j : Nat} {es : List Ent} (h : StoAt k l p0 j p es) {n : ByteArray} (hn : (nmsP l)[j]? = some n) (hs : lookF9 l n = none) (hp : sto k p (inD l n) = none) :
    sto (k + 1) p0 l = none := by rw [sto, h.drop hn, stoE_dirx hs hp]
theorem asc_ents {es : List Ent} (h : Asc (es.map Ent.nm)) {j : Nat} {a b : Ent} (ha : es[j]? = some a) (hb : es[j + 1]? = some b) : less a.nm b.nm = true := by
  unfold Asc at h
  rw [List.pairwise_map, List.pairwise_iff_getElem] at h
  obtain ⟨h1, rfl⟩ := List.getElem?_eq_some_iff.1 ha
  obtain ⟨h2, rfl⟩ := List.getElem?_eq_some_iff.1 hb
  exact h j (j + 1) h1 h2 (by omega)
theorem StoAt.es {k : Nat} {l : List Fl} {p0 p : List Itm} {j : Nat} {es : List Ent} (h : StoAt k l p0 j p es) (hl : OkL l) : OkEs es where
  few := by
    have h1 := congrArg List.length h.nm
    rw [List.length_map, List.length_take] at h1
    have := nms_len l
    have := hl.few
    omega
  all := h.all
  asc j' a b ha hb := asc_ents (by rw [h.nm]; exact (nms_asc l).sublist (List.take_sublist _ _)) ha hb
theorem StoAt.done {k : Nat} {l : List Fl} {p0 p q : List Itm} {j : Nat} {es : List Ent} (h : StoAt k l p0 j p es) (hj : (nmsP l).length ≤ j) (hp : putP p (treeO es) = some q) : sto (k + 1) p0 l = some (q, dgO (treeO es)) := by
  rw [sto, h.eq, List.drop_of_length_le hj]
  simp only [stoE, hp]
theorem StoAt.donex {k : Nat} {l : List Fl} {p0 p : List Itm} {j : Nat} {es : List Ent} (h : StoAt k l p0 j p es) (hj : (nmsP l).length ≤ j) (hp : putP p (treeO es) = none) : sto (k + 1) p0 l = none := by
  rw [sto, h.eq, List.drop_of_length_le hj]
  simp only [stoE, hp]
theorem StoAt.res {k : Nat} {l : List Fl} {p0 p q : List Itm} {j : Nat} {es : List Ent} (h : StoAt k l p0 j p es) (hl : OkL l) (hp : putP p (treeO es) = some q) : StoR p0 q (dgO (treeO es)) l :=
  ⟨putP_ok h.ok (okO_treeO (h.es hl)) hp, h.sub.trans (putP_sub h.ok hp), wf_ofB _, ofB_nz _, by have := putP_len hp; have := h.len; omega⟩
theorem StoAt.elen {k : Nat} {l : List Fl} {p0 p : List Itm} {j : Nat} {es : List Ent} (h : StoAt k l p0 j p es) (hj : j ≤ (nmsP l).length) : es.length = j := by
  have := congrArg List.length h.nm
  rw [List.length_map, List.length_take] at this
  omega
theorem StoAt.plen {k : Nat} {l : List Fl} {p0 p : List Itm} {j : Nat} {es : List Ent} (h : StoAt k l p0 j p es) : p.length ≤ p0.length + wt l := by have := h.len; omega
theorem dir_ne {l : List Fl} {n : ByteArray} (hn : n ∈ nmsP l) (h : lookF9 l n = none) : inD l n ≠ [] := by
  obtain ⟨f, hf, rfl⟩ := nms_mem.1 hn
  intro e
  cases hd : deN f.1 with
  | true =>
    have : (rsN f.1, f.2) ∈ inD l (fsN f.1) := mem_inD.2 ⟨f, hf, hd, rfl, rfl⟩
    rw [e] at this; cases this
  | false => exact look9_none.1 h f hf (cut_flat hd).symm
end Go.Proofs.YtmdhlkkekidknaaGreatDoor
