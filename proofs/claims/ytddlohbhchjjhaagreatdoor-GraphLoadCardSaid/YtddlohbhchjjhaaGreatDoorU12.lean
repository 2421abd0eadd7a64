/-
  Lemmas: The reference's check of a blob. The reference's Check of files. The reference's Load: find, build. The reference's list of targets, one by one in its place, in plain Lean. The reference's reading of rules, in plain Lean: it reads what the program's reader reads. The reference's reader of build files: is, next, word. The reference's Order.
-/
import Derived.Test.YtddlohbhchjjhaaGreatDoorU11

namespace Go.Proofs.YtddlohbhchjjhaaGreatDoor
open Go.RowKit Go.Shelf

set_option maxHeartbeats 1000000 in
theorem num7_any (n : Nat) (hn : n ≤ 1099511627776) (w : World) : Calls Tryz.prog 178 #[.int .i64 n] w fun e w' => e = .returned (.string (ofL (encN n))) ∧ Below w.heap.size w w' := by
  go_enter Tryz.func178, Tryz.ntmps178
  go_wp2_with fail
  refine (refPutInt_any n hn w).mono ?_
  rintro e w1 ⟨rfl, hb1⟩
  go_wp2_with fail
  go_ret
  exact ⟨rfl, hb1⟩
set_option maxHeartbeats 1000000 in
theorem txt7_any (s : ByteArray) (hs : s.size ≤ 65536) (w : World) : Calls Tryz.prog 179 #[.string s] w fun e w' => e = .returned (.string (ofL (encT (toL s)))) ∧ Below w.heap.size w w' := by
  go_enter Tryz.func179, Tryz.ntmps179
  go_wp2_with fail
  refine (refPutText_any s hs w).mono ?_
  rintro e w1 ⟨rfl, hb1⟩
  go_wp2_with fail
  go_ret
  exact ⟨rfl, hb1⟩
set_option maxHeartbeats 1000000 in
theorem zero7_any (w : World) : Calls Tryz.prog 220 #[.agg #[.int .u64 0, .int .u64 0]] w fun e w' => e = .returned (.bool true) ∧ Below w.heap.size w w' := by
  go_enter Tryz.func220, Tryz.ntmps220
  go_wp2
  all_goals (go_ret; exact ⟨rfl, (Below.refl _ w).alloc (Nat.le_refl _) _⟩)
set_option maxRecDepth 100000 in
set_option maxHeartbeats 2000000 in
theorem only7_any (d : ByteArray) (w : World) : Calls Tryz.prog 175 #[.agg (blobC d)] w fun e w' => e = .returned (.bool true) ∧ Below w.heap.size w w' := by
  unfold blobC
  obtain ⟨W0, hW0⟩ : ∃ W0, w.alloc (.cells #[.int .i64 1, .string d, .slice none 0 0, .int .u64 0, .int .u64 0, .slice none 0 0, .string ⟨#[]⟩, .int .i64 0, .string ⟨#[]⟩] 125) = W0 := ⟨_, rfl⟩
  have HB0 : Hid (Below w.heap.size w W0) := by rw [← hW0]; exact (Below.refl _ w).alloc (Nat.le_refl _) _
  have HK0 : Hid (Bk W0 w.heap.size 125 #[.int .i64 1, .string d, .slice none 0 0, .int .u64 0, .int .u64 0, .slice none 0 0, .string ⟨#[]⟩, .int .i64 0, .string ⟨#[]⟩]) := by rw [← hW0]; exact Bk.new w _ _
  have zW0 : W0.heap.size = w.heap.size + 1 := by rw [← hW0]; simp
  have c0 := HK0.out.cell 0; have c1 := HK0.out.cell 1; have c2 := HK0.out.cell 2; have c3 := HK0.out.cell 3; have c4 := HK0.out.cell 4; have c5 := HK0.out.cell 5; have c6 := HK0.out.cell 6; have c7 := HK0.out.cell 7; have c8 := HK0.out.cell 8
  simp at c0 c1 c2 c3 c4 c5 c6 c7 c8
  go_enter Tryz.func175, Tryz.ntmps175
  go_wp2_with fail
  refine (zero7_any W0).mono ?_
  rintro e w1 ⟨rfl, hb1⟩
  have HB1 : Hid (Below w.heap.size w w1) := HB0.out.trans (hb1.mono (by omega))
  have HK1 := Lib.hid (HK0.out.below hb1 (by omega))
  clear hb1 hW0 c0 c1 c2 c3 c4 c5 c6 c7 c8
  have c0 := HK1.out.cell 0; have c1 := HK1.out.cell 1; have c2 := HK1.out.cell 2; have c5 := HK1.out.cell 5; have c6 := HK1.out.cell 6; have c7 := HK1.out.cell 7; have c8 := HK1.out.cell 8
  simp at c0 c1 c2 c5 c6 c7 c8
  go_wp2_with fail
  go_ret
  exact ⟨rfl, HB1.out⟩
set_option maxRecDepth 100000 in
set_option maxHeartbeats 2000000 in
theorem fields7_any (d : ByteArray) (w : World) (hd : d.size ≤ 60000) : Calls Tryz.prog 131 #[.agg (blobC d)] w fun e w' => e = .returned (.int .i64 0) ∧ Below w.heap.size w w' := by
  have HO := fun w => Lib.hid (only7_any d w)
  unfold blobC at HO ⊢
  obtain ⟨W0, hW0⟩ : ∃ W0, w.alloc (.cells #[.int .i64 1, .string d, .slice none 0 0, .int .u64 0, .int .u64 0, .slice none 0 0, .string ⟨#[]⟩, .int .i64 0, .string ⟨#[]⟩] 125) = W0 := ⟨_, rfl⟩
  have HB0 : Hid (Below w.heap.size w W0) := by rw [← hW0]; exact (Below.refl _ w).alloc (Nat.le_refl _) _
  have HK0 : Hid (Bk W0 w.heap.size 125 #[.int .i64 1, .string d, .slice none 0 0, .int .u64 0, .int .u64 0, .slice none 0 0, .string ⟨#[]⟩, .int .i64 0, .string ⟨#[]⟩]) := by rw [← hW0]; exact Bk.new w _ _
  have zW0 : W0.heap.size = w.heap.size + 1 := by rw [← hW0]; simp
  have HO0 := HO W0
  have hdz : ¬ (65536 : Int) < (d.size : Int) := by omega
  have c0 := HK0.out.cell 0; have c1 := HK0.out.cell 1; have c2 := HK0.out.cell 2; have c3 := HK0.out.cell 3; have c4 := HK0.out.cell 4; have c5 := HK0.out.cell 5; have c6 := HK0.out.cell 6; have c7 := HK0.out.cell 7; have c8 := HK0.out.cell 8
  simp at c0 c1 c2 c3 c4 c5 c6 c7 c8
  clear HO
  go_enter Tryz.func131, Tryz.ntmps131
  go_wp2_with fail
  refine HO0.out.mono ?_
  rintro e w1 ⟨rfl, hb1⟩
  have HB1 : Hid (Below w.heap.size w w1) := HB0.out.trans (hb1.mono (by omega))
  have HK1 := Lib.hid (HK0.out.below hb1 (by omega))
  clear hb1 hW0 c0 c1 c2 c3 c4 c5 c6 c7 c8 HO0
  have c0 := HK1.out.cell 0; have c1 := HK1.out.cell 1
  simp at c0 c1
  go_wp2_with fail
  go_ret
  exact ⟨rfl, HB1.out⟩
set_option maxRecDepth 100000 in
set_option maxHeartbeats 2000000 in
theorem enc7_any (d : ByteArray) (w : World) (hd : d.size ≤ 60000) : Calls Tryz.prog 132 #[.agg (blobC d)] w fun e w' => (∃ s : ByteArray, e = .returned (.string s) ∧ s.size ≤ 60007) ∧ Below w.heap.size w w' := by
  have hle : (encT (toL d)).length ≤ 60006 := by
    have h1 := encN_len 5 d.size (by omega)
    have hsd := size_toL d
    unfold encT; rw [List.length_append, ← hsd]; omega
  have hl1 : (encN 1).length = 1 := by rw [encN_small (by omega)]; rfl
  unfold blobC
  obtain ⟨W0, hW0⟩ : ∃ W0, w.alloc (.cells #[.int .i64 1, .string d, .slice none 0 0, .int .u64 0, .int .u64 0, .slice none 0 0, .string ⟨#[]⟩, .int .i64 0, .string ⟨#[]⟩] 125) = W0 := ⟨_, rfl⟩
  have HB0 : Hid (Below w.heap.size w W0) := by rw [← hW0]; exact (Below.refl _ w).alloc (Nat.le_refl _) _
  have HK0 : Hid (Bk W0 w.heap.size 125 #[.int .i64 1, .string d, .slice none 0 0, .int .u64 0, .int .u64 0, .slice none 0 0, .string ⟨#[]⟩, .int .i64 0, .string ⟨#[]⟩]) := by rw [← hW0]; exact Bk.new w _ _
  have zW0 : W0.heap.size = w.heap.size + 1 := by rw [← hW0]; simp
  have c0 := HK0.out.cell 0; have c1 := HK0.out.cell 1
  simp at c0 c1
  have HN := Lib.hid (num7_any 1 (by omega) W0)
  have hs1 : (ofL (encN 1)).size = 1 := by rw [size_ofL, hl1]
  generalize ofL (encN 1) = s1 at HN hs1
  go_enter Tryz.func132, Tryz.ntmps132
  go_wp2_with fail
  refine HN.out.mono ?_
  rintro e w1 ⟨rfl, hb1⟩
  have HB1 : Hid (Below w.heap.size w w1) := HB0.out.trans (hb1.mono (by omega))
  have HK1 := Lib.hid (HK0.out.below hb1 (by omega))
  clear hb1 hW0 c0 c1 HN
  have HT := Lib.hid (txt7_any d (by omega) w1)
  have hs2 : (ofL (encT (toL d))).size ≤ 60006 := by rw [size_ofL]; exact hle
  generalize ofL (encT (toL d)) = s2 at HT hs2
  have c0 := HK1.out.cell 0; have c1 := HK1.out.cell 1
  simp at c0 c1
  go_wp2_with fail
  refine HT.out.mono ?_
  rintro e w2 ⟨rfl, hb2⟩
  have HB2 : Hid (Below w.heap.size w w2) := HB1.out.trans (hb2.mono HB1.out.size)
  clear hb2 HT c0 c1
  have hsz : ¬ (9223372036854775807 < s1.size + s2.size) := by omega
  go_wp2_with fail
  go_ret
  exact ⟨⟨_, rfl, by rw [ByteArray.size_append]; omega⟩, HB2.out⟩
set_option maxRecDepth 100000 in
set_option maxHeartbeats 2000000 in
theorem check7_any (d : ByteArray) (w : World) (hd : d.size ≤ 60000) : Calls Tryz.prog 88 #[.agg (blobC d)] w fun e w' => e = .returned (.int .i64 0) ∧ Below w.heap.size w w' := by
  have HF := fun w => Lib.hid (fields7_any d w hd)
  have HE := fun w => Lib.hid (enc7_any d w hd)
  unfold blobC at HF HE ⊢
  obtain ⟨W0, hW0⟩ : ∃ W0, w.alloc (.cells #[.int .i64 1, .string d, .slice none 0 0, .int .u64 0, .int .u64 0, .slice none 0 0, .string ⟨#[]⟩, .int .i64 0, .string ⟨#[]⟩] 125) = W0 := ⟨_, rfl⟩
  have HB0 : Hid (Below w.heap.size w W0) := by rw [← hW0]; exact (Below.refl _ w).alloc (Nat.le_refl _) _
  have HK0 : Hid (Bk W0 w.heap.size 125 #[.int .i64 1, .string d, .slice none 0 0, .int .u64 0, .int .u64 0, .slice none 0 0, .string ⟨#[]⟩, .int .i64 0, .string ⟨#[]⟩]) := by rw [← hW0]; exact Bk.new w _ _
  have zW0 : W0.heap.size = w.heap.size + 1 := by rw [← hW0]; simp
  have HF0 := HF W0
  have c0 := HK0.out.cell 0; have c1 := HK0.out.cell 1; have c2 := HK0.out.cell 2; have c3 := HK0.out.cell 3; have c4 := HK0.out.cell 4; have c5 := HK0.out.cell 5; have c6 := HK0.out.cell 6; have c7 := HK0.out.cell 7; have c8 := HK0.out.cell 8
  simp at c0 c1 c2 c3 c4 c5 c6 c7 c8
  clear HF
  go_enter Tryz.func88, Tryz.ntmps88
  go_wp2_with fail
  refine HF0.out.mono ?_
  rintro e w1 ⟨rfl, hb1⟩
  have HB1 : Hid (Below w.heap.size w w1) := HB0.out.trans (hb1.mono (by omega))
  have HK1 := Lib.hid (HK0.out.below hb1 (by omega))
  have HE1 := HE w1
  clear hb1 hW0 c0 c1 c2 c3 c4 c5 c6 c7 c8 HF0 HE
  have c0 := HK1.out.cell 0; have c1 := HK1.out.cell 1; have c2 := HK1.out.cell 2; have c3 := HK1.out.cell 3; have c4 := HK1.out.cell 4; have c5 := HK1.out.cell 5; have c6 := HK1.out.cell 6; have c7 := HK1.out.cell 7; have c8 := HK1.out.cell 8
  simp at c0 c1 c2 c3 c4 c5 c6 c7 c8
  go_wp2_with fail
  refine HE1.out.mono ?_
  rintro e w2 ⟨⟨s, rfl, hs⟩, hb2⟩
  have HB2 : Hid (Below w.heap.size w w2) := HB1.out.trans (hb2.mono HB1.out.size)
  have hsz : ¬ (65536 : Int) < (s.size : Int) := by omega
  clear hb2 HE1 c0 c1 c2 c3 c4 c5 c6 c7 c8
  go_wp2_with fail
  go_ret
  exact ⟨rfl, HB2.out⟩
theorem resultsBl9 {w : World} {a : Array Value} {b : Nat} {d : ByteArray} (ha : a[2]?.getD undef = .pointer (some ⟨b, 0, none⟩)) (h : Bk w b 125 (blobC d)) : (results Tryz.f89 a).run Tryz.prog w = .ok (.agg (blobC d)) w := by
  have c0 := h.cell 0; have c1 := h.cell 1; have c2 := h.cell 2; have c3 := h.cell 3; have c4 := h.cell 4; have c5 := h.cell 5; have c6 := h.cell 6; have c7 := h.cell 7; have c8 := h.cell 8
  simp [blobC] at c0 c1 c2 c3 c4 c5 c6 c7 c8
  simp [results, Tryz.results89, ha, go_sem, blobC, c0, c1, c2, c3, c4, c5, c6, c7, c8]
theorem blob9_any (d : ByteArray) (w : World) : Calls Tryz.prog 89 #[.string d] w fun e w' => e = .returned (.agg (blobC d)) ∧ Below w.heap.size w w' := by
  go_enter Tryz.func89, Tryz.ntmps89
  go_wp2
  have hk : Bk (w.alloc (.cells (blobC d) 125)) w.heap.size 125 (blobC d) := Bk.new w _ _
  exact bodyPost_ret (resultsBl9 rfl hk) rfl ⟨rfl, (Below.refl _ w).alloc (Nat.le_refl _) _⟩
end Go.Proofs.YtddlohbhchjjhaaGreatDoor

namespace Go.Proofs.YtddlohbhchjjhaaGreatDoor
open Go.RowKit Go.Shelf

theorem dirE_of {fs : List Fl} {f g : Fl} (hf : f ∈ fs) (hg : g ∈ fs) (h : belB f.1 g.1 = true) : DirE fs := by
  unfold belB at h
  simp only [Bool.and_eq_true, decide_eq_true_eq] at h
  obtain ⟨h1, h2, h3⟩ := h
  refine ⟨g, hg, f.1.size, h1, ?_⟩
  unfold dirAt
  rw [h2, decide_eq_true h3, Bool.true_and, memB_iff]
  exact List.mem_map_of_mem hf
theorem dirE_no {fs : List Fl} (h : ∀ f ∈ fs, ∀ g ∈ fs, belB f.1 g.1 = false) : ¬ DirE fs := by
  rintro ⟨g, hg, j, hj, hd⟩
  unfold dirAt at hd
  rw [Bool.and_eq_true, decide_eq_true_eq, memB_iff] at hd
  obtain ⟨h1, h2⟩ := hd
  obtain ⟨f, hf, e⟩ := List.mem_map.1 h2
  have := h f hf g hg
  have hs : f.1.size = j := by
    have := congrArg ByteArray.size e
    rw [ByteArray.size_extract] at this
    omega
  unfold belB at this
  rw [hs, ← e, decide_eq_true hj, decide_eq_true h1] at this
  simp at this
set_option maxRecDepth 100000 in
set_option maxHeartbeats 8000000 in
theorem check9_any (A : Option Addr) (n c B : Nat) (fs : List Fl) (w : World) (h0 : Sl w B 2 A n (flat flC fs)) (hB : B ≤ w.heap.size) (hn : n ≤ 1000000) (hsz : ∀ f ∈ fs, f.1.size ≤ 1000000 ∧ f.2.size ≤ 60000) :
    Calls Tryz.prog 44 #[.slice A n c] w fun e w' => ∃ err, e = .returned (.int .i64 err) ∧ TckR fs err ∧ Below w.heap.size w w' := by
  have HL := Lib.hid (h0.len flC_len (by omega))
  have H0 := Lib.hid h0; have HSZ := Lib.hid hsz
  clear h0 hsz
  go_enter Tryz.func44, Tryz.ntmps44
  by_cases hbig : (200 : Int) < (n : Int)
  · have HE : Hid (TckR fs 4) := .inl ⟨by rw [HL.out]; omega, rfl⟩
    go_wp2_with fail
    go_ret
    exact ⟨4, rfl, HE.out, Below.refl _ _⟩
  have hsm : n ≤ 200 := by omega
  obtain ⟨r, hr⟩ : ∃ r, tchk none fs = r := ⟨_, rfl⟩
  have HR := Lib.hid hr
  clear hr
  go_wp2_with fail
  go_loopw [3] (fun i wr => ∃ k : Nat, k ≤ n ∧ i = .int .i64 k ∧ Hid (r = tchk (prevT fs k) (fs.drop k)) ∧ Hid (Below w.heap.size w wr)) (fun i _ => n - (intOf i).toNat)
  case atStart => exact ⟨0, Nat.zero_le _, rfl, HR.out.symm, Below.refl _ _⟩
  case round =>
    obtain ⟨k, hk, rfl, hC, hBel⟩ := hrel
    by_cases hlt : k < n
    · obtain ⟨b, off, f, rfl, hbB, hf, y0, y1⟩ := (H0.out.below hBel.out hB).fl hlt
      have hlz : (k : Int) < (n : Int) := by omega
      have HF := Lib.hid hf
      have hfs := HSZ.out f (List.mem_of_getElem? hf)
      have HC := hC
      rw [tchk_at hf] at HC
      have HPT := Lib.hid (path9_any f.1 wr hfs.1)
      clear hf hC
      go_wp2_with (go_at_call 87; refine HPT.out.mono ?_; rintro e w3 ⟨rfl, hb3⟩; refine halt_ ?_)
      refine unhalt ?_
      have HB3 : Hid (Below w.heap.size w w3) := hBel.out.trans (hb3.mono hBel.out.size)
      have hz0 := hBel.out.size; have hz3 := hb3.size
      have y0 := (hb3.cell (p := ⟨b, off + k * 2, none⟩) (by show b < _; omega)).trans y0
      have y1 := (hb3.cell (p := ⟨b, off + k * 2 + 1, none⟩) (by show b < _; omega)).trans y1
      clear hb3 HPT
      cases hp : pathB f.1 with
      | false =>
        have HE : Hid (TckR fs 6) := .inr (.inl ⟨by rw [HL.out]; omega, by rw [HR.out, HC.out, hp]; simp, by rw [HR.out, HC.out, hp]; simp⟩)
        clear hp
        go_wp2_with fail
        go_ret
        exact ⟨6, rfl, HE.out, HB3.out⟩
      | true =>
        rw [hp, if_pos rfl] at HC
        have HBL := Lib.hid (blob9_any f.2 w3)
        clear hp
        go_wp2_with (go_at_call 89; refine HBL.out.mono ?_; rintro e w4 ⟨rfl, hb4⟩; refine halt_ ?_)
        refine unhalt ?_
        have HOC := Lib.hid (check7_any f.2 w4 hfs.2)
        have HB4 : Hid (Below w.heap.size w w4) := HB3.out.trans (hb4.mono HB3.out.size)
        clear hb4 HBL y0 y1
        go_wp2_with (go_at_call 88; refine HOC.out.mono ?_; rintro e w5 ⟨rfl, hb5⟩; refine halt_ ?_)
        refine unhalt ?_
        have HB5 : Hid (Below w.heap.size w w5) := HB4.out.trans (hb5.mono HB4.out.size)
        clear hb5 HOC
        obtain ⟨b', off', f', hfe, hbB', hf', y0, y1⟩ := (H0.out.below HB5.out hB).fl hlt
        cases hfe
        obtain rfl : f' = f := by rw [HF.out] at hf'; exact (Option.some.inj hf').symm
        clear hf'
        cases k with
        | zero =>
          have HN : Hid (r = tchk (prevT fs 1) (fs.drop 1)) := by
            show _ = _
            rw [HC.out, if_pos]; rfl
          go_wp2_with fail
          go_quiet (fail)
          go_wp2_with fail
          go_roundw
          case rel => exact ⟨1, hlt, by first | rfl | go_num, HN.out, below_drewN HB5.out _⟩
          case measure => simp [intOf]; omega
        | succ j =>
          obtain ⟨b', off', p, hpe, hbp, hpf, z0, z1⟩ := (H0.out.below HB5.out hB).fl (k := j) (by omega)
          cases hpe
          have HPV : Hid (prevT fs (j + 1) = some p.1) := by show _ = _; unfold prevT; rw [if_neg (by omega), Nat.add_sub_cancel, hpf]; rfl
          have hle := less_str p.1 f'.1
          have hkp : (0 : Int) < ((j + 1 : Nat) : Int) := by omega
          have hw1 : IntKind.i64.wrap (((j + 1 : Nat) : Int) - 1) = (j : Int) := by rw [wrap_sm (by omega) (by omega)]; omega
          have hj1 : ¬ (j : Int) < 0 := by omega
          have hj2 : (j : Int) < (n : Int) := by omega
          clear hpf
          cases hl : less p.1 f'.1 with
          | true =>
            rw [hl] at hle
            have HN : Hid (r = tchk (prevT fs (j + 1 + 1)) (fs.drop (j + 1 + 1))) := by
              show _ = _
              rw [HC.out, if_pos]; rw [HPV.out]; exact hl
            clear hl
            go_wp2_with fail
            go_quiet (fail)
            go_wp2_with fail
            go_roundw
            case rel => exact ⟨j + 1 + 1, hlt, by go_num, HN.out, below_drewN HB5.out _⟩
            case measure => simp [intOf]; omega
          | false =>
            rw [hl] at hle
            have HE : Hid (TckR fs 10) := by
              have h1 : r = 10 := by rw [HC.out, if_neg]; rw [HPV.out]; show ¬ (less p.1 f'.1 = true); rw [hl]; simp
              exact .inr (.inl ⟨by rw [HL.out]; omega, by rw [HR.out, h1]; simp, by rw [HR.out, h1]⟩)
            clear hl
            go_wp2_with fail
            go_quiet (fail)
            go_wp2_with fail
            go_ret
            exact ⟨10, rfl, HE.out, below_drewN HB5.out _⟩
    · have hlz : ¬ (k : Int) < (n : Int) := by omega
      have HT0 : Hid (tchk none fs = 0) := by
        show _ = _
        rw [HR.out, hC.out, List.drop_of_length_le (by rw [HL.out]; omega)]
        rfl
      have HNO : Hid ((∀ f ∈ fs, ∀ g ∈ fs, belB f.1 g.1 = false) → TckR fs 0) := fun h => .inr (.inr ⟨by rw [HL.out]; omega, HT0.out, .inr ⟨dirE_no h, rfl⟩⟩)
      have HYE : Hid (∀ f ∈ fs, ∀ g ∈ fs, belB f.1 g.1 = true → TckR fs 7) := fun f hf g hg h => .inr (.inr ⟨by rw [HL.out]; omega, HT0.out, .inl ⟨dirE_of hf hg h, rfl⟩⟩)
      clear hC
      go_wp2_with fail
      obtain ⟨wo, hwo⟩ : ∃ wo, wo = wr := ⟨_, rfl⟩
      subst hwo
      go_loopw [4] (fun i wr => ∃ k : Nat, k ≤ n ∧ i = .int .i64 k ∧ Hid (∀ f ∈ fs.take k, ∀ g ∈ fs, belB f.1 g.1 = false) ∧ Hid (Below w.heap.size w wr)) (fun i _ => n - (intOf i).toNat)
      case atStart => exact ⟨0, Nat.zero_le _, rfl, fun f hf => by simp at hf, hBel.out⟩
      case round =>
        obtain ⟨i, hi, rfl, hI, hBr⟩ := hrel
        by_cases hil : i < n
        · have hiz : (i : Int) < (n : Int) := by omega
          obtain ⟨b, off, f, rfl, hbB, hf, y0, y1⟩ := (H0.out.below hBr.out hB).fl hil
          have HF := Lib.hid hf
          have HFM := Lib.hid (List.mem_of_getElem? hf)
          clear hf y0 y1
          go_wp2_with fail
          obtain ⟨wp, hwp⟩ : ∃ wo, wo = wr := ⟨_, rfl⟩
          subst hwp
          go_loopw [5] (fun i wr => ∃ k : Nat, k ≤ n ∧ i = .int .i64 k ∧ Hid (∀ g ∈ fs.take k, belB f.1 g.1 = false) ∧ Hid (Below w.heap.size w wr)) (fun i _ => n - (intOf i).toNat)
          case atStart => exact ⟨0, Nat.zero_le _, rfl, fun f hf => by simp at hf, hBr.out⟩
          case round =>
            obtain ⟨j, hj, rfl, hJ, hBq⟩ := hrel
            by_cases hjl : j < n
            · have hjz : (j : Int) < (n : Int) := by omega
              obtain ⟨b1, off1, f1, he1, hbB1, hf1, y0, y1⟩ := (H0.out.below hBq.out hB).fl hil
              cases he1
              obtain rfl : f1 = f := by rw [HF.out] at hf1; exact (Option.some.inj hf1).symm
              obtain ⟨b1, off1, g, he1, hbB2, hg, z0, z1⟩ := (H0.out.below hBq.out hB).fl hjl
              cases he1
              have HG := Lib.hid hg
              have HBE : Hid (∀ q, Calls Tryz.prog 90 #[.string f1.1, .string g.1] (wr.drewN q) fun e w' => e = .returned (.bool (belB f1.1 g.1)) ∧ w' = wr.drewN q) := fun q => (below9_any f1.1 g.1 (wr.drewN q)).mono fun e w' h => ⟨h.1, h.2.symm⟩
              clear hf1 hg y1 z1
              cases hb : belB f1.1 g.1 with
              | true =>
                have HE := Lib.hid (HYE.out f1 HFM.out g (List.mem_of_getElem? HG.out) hb)
                rw [hb] at HBE
                clear hb
                go_wp2_with fail
                go_quiet (first | (go_at_call 90; exact Calls.quiet_of_same (HBE.out _)))
                go_wp2_with fail
                go_ret
                exact ⟨7, rfl, HE.out, below_drewN hBq.out _⟩
              | false =>
                have HN : Hid (∀ g ∈ fs.take (j + 1), belB f1.1 g.1 = false) := fun y hy => by
                  rw [take_snoc HG.out] at hy
                  rcases List.mem_append.1 hy with hy | hy
                  · exact hJ.out y hy
                  · rw [List.mem_singleton.1 hy]; exact hb
                rw [hb] at HBE
                clear hb
                go_wp2_with fail
                go_quiet (first | (go_at_call 90; exact Calls.quiet_of_same (HBE.out _)))
                go_wp2_with fail
                go_roundw
                case rel => exact ⟨j + 1, hjl, by go_num, HN.out, below_drewN hBq.out _⟩
                case measure => simp [intOf]; omega
            · have hjz : ¬ (j : Int) < (n : Int) := by omega
              have HN : Hid (∀ f ∈ fs.take (i + 1), ∀ g ∈ fs, belB f.1 g.1 = false) := fun y hy g hg => by
                rw [take_snoc HF.out] at hy
                rcases List.mem_append.1 hy with hy | hy
                · exact hI.out y hy g hg
                · rw [List.mem_singleton.1 hy]
                  exact hJ.out g (by rw [List.take_of_length_le (by rw [HL.out]; omega)]; exact hg)
              go_wp2_with fail
              go_roundw
              case rel => exact ⟨i + 1, hil, by go_num, HN.out, hBq.out⟩
              case measure => simp [intOf]; omega
        · have hiz : ¬ (i : Int) < (n : Int) := by omega
          have HE : Hid (TckR fs 0) := HNO.out fun f hf => hI.out f (by rw [List.take_of_length_le (by rw [HL.out]; omega)]; exact hf)
          go_wp2_with fail
          go_ret
          exact ⟨0, rfl, HE.out, hBr.out⟩
end Go.Proofs.YtddlohbhchjjhaaGreatDoor

namespace Go.Proofs.YtddlohbhchjjhaaGreatDoor
open Go.RowKit Go.Shelf

def rootW : ByteArray := ⟨#[47, 66, 85, 73, 76, 68]⟩
theorem bld_ref {p : ByteArray} (hp : p ≠ rootW) : bldB p = (decide (p = buildW) || decide (p = dirS p ++ rootW)) := by
  unfold bldB
  by_cases hd : dirS p = ⟨#[]⟩
  · have e : bldS (dirS p) = buildW := by rw [hd]; exact if_pos rfl
    have e2 : dirS p ++ rootW = rootW := by rw [hd]; decide
    rw [e, e2, decide_eq_false hp]; simp
  · have e : bldS (dirS p) = dirS p ++ slBuildW := if_neg hd
    rw [e, show slBuildW = rootW from rfl]
    have hb : p ≠ buildW := by
      rintro rfl
      exact hd (by decide +kernel)
    rw [decide_eq_false hb]; simp
set_option maxHeartbeats 1000000 in
theorem build39_any (p : ByteArray) (w : World) (hs : p.size ≤ 100000) (hp : p ≠ rootW) : Calls Tryz.prog 98 #[.string p] w fun e w' => e = .returned (.bool (bldB p)) ∧ w = w' := by
  have h1 : (p.toList == [66, 85, 73, 76, 68]) = decide (p = buildW) := str_lit p _
  have HBR := Lib.hid (bld_ref hp)
  have HD := Lib.hid (rdir_any p w (by omega))
  have hse := str_dec p (dirS p ++ rootW)
  have hds := dir_size p
  have hsz : ¬ (9223372036854775807 < (dirS p).size + rootW.size) := by have : rootW.size = 6 := rfl; omega
  generalize dirS p = d at *
  go_enter Tryz.func98, Tryz.ntmps98
  by_cases hb : p = buildW
  · rw [decide_eq_true hb] at h1 HBR
    have h1' : (p.toList == [66, 85, 73, 76, 68]) = true := h1
    clear hb
    go_wp2_with fail
    go_ret
    exact ⟨ret_bool (by rw [HBR.out]; rfl), rfl⟩
  · rw [decide_eq_false hb] at h1 HBR
    clear hb
    unfold rootW at hse hsz
    go_wp2_with fail
    refine HD.out.mono ?_
    rintro e w1 ⟨rfl, rfl⟩
    go_wp2_with fail
    go_ret
    exact ⟨ret_bool (by rw [HBR.out, Bool.false_or]; rfl), rfl⟩
def FdEnd (mb : Bool) (w : World) (e : Ending) (w' : World) : Prop := (∃ d, e = .returned (.tuple #[.string d, .bool mb])) ∧ w = w'
set_option maxRecDepth 100000 in
set_option maxHeartbeats 1000000 in
theorem find9_any (A : Option Addr) (n c B : Nat) (fs : List Fl) (p : ByteArray) (w : World) (h0 : Sl w B 2 A n (flat flC fs)) (hn : n ≤ 1000000) :
    Calls Tryz.prog 157 #[.slice A n c, .string p] w (FdEnd (memB (fs.map Prod.fst) p) w) := by
  have HL := Lib.hid (h0.len flC_len (by omega))
  have H0 := Lib.hid h0; clear h0
  go_enter Tryz.func157, Tryz.ntmps157
  go_wp2
  go_loopw [6] (fun i wr => ∃ k : Nat, k ≤ n ∧ i = .int .i64 k ∧ Hid (∀ f ∈ fs.take k, f.1 ≠ p) ∧ wr = w) (fun i _ => n - (intOf i).toNat)
  case atStart => exact ⟨0, Nat.zero_le _, rfl, fun f hf => by simp at hf, rfl⟩
  case round =>
    obtain ⟨k, hk, rfl, hN, rfl⟩ := hrel
    by_cases hlt : k < n
    · obtain ⟨b, off, f, rfl, hb, hf, y0, y1⟩ := H0.out.fl hlt
      have hkz : (k : Int) < (n : Int) := by omega
      have HF := Lib.hid hf; clear hf
      have hse := str_dec f.1 p
      by_cases e : f.1 = p
      · have HM : Hid (memB (fs.map Prod.fst) p = true) := (memB_iff _ _).2 (List.mem_map.2 ⟨f, List.mem_of_getElem? HF.out, e⟩)
        rw [decide_eq_true e] at hse
        clear e
        generalize memB (fs.map Prod.fst) p = mb at HM ⊢
        obtain rfl : mb = true := HM.out
        go_wp2
        go_ret2
        exact ⟨⟨_, rfl⟩, rfl⟩
      · rw [decide_eq_false e] at hse
        have HN : Hid (∀ f ∈ fs.take (k + 1), f.1 ≠ p) := fun y hy => by
          rw [take_snoc HF.out] at hy
          rcases List.mem_append.1 hy with hy | hy
          · exact hN.out y hy
          · rw [List.mem_singleton.1 hy]; exact e
        clear e
        go_wp2
        go_roundw
        case rel => exact ⟨k + 1, hlt, by go_num, HN.out, trivial⟩
        case measure => simp [intOf]; omega
    · have hkz : ¬ (k : Int) < (n : Int) := by omega
      have HM : Hid (memB (fs.map Prod.fst) p = false) := by
        show _ = _
        rw [Bool.eq_false_iff]; intro hh
        obtain ⟨f, hf, e⟩ := List.mem_map.1 ((memB_iff _ _).1 hh)
        exact hN.out f (by rw [List.take_of_length_le (by rw [HL.out]; omega)]; exact hf) e
      go_wp2
      go_ret2
      exact ⟨⟨⟨#[]⟩, by rw [HM.out]; rfl⟩, rfl⟩
theorem findU9_any (A : Option Addr) (n c B : Nat) (fs : List Fl) (p : ByteArray) (w : World) (h0 : Sl w B 2 A n (flat flC fs)) (hn : n ≤ 1000000) :
    Calls Tryz.prog 103 #[.slice A n c, .string p] w (FdEnd (memB (fs.map Prod.fst) p) w) := by
  have HF := Lib.hid (find9_any A n c B fs p w h0 hn)
  clear h0
  generalize memB (fs.map Prod.fst) p = mb at HF ⊢
  go_enter Tryz.func103, Tryz.ntmps103
  go_wp2_with fail
  refine HF.out.mono ?_
  rintro e w1 ⟨⟨d, rfl⟩, rfl⟩
  go_wp2_with fail
  go_ret2
  exact ⟨⟨_, rfl⟩, rfl⟩
end Go.Proofs.YtddlohbhchjjhaaGreatDoor

namespace Go.Proofs.YtddlohbhchjjhaaGreatDoor
open Go.RowKit Go.Shelf

def posC : List Ct → ByteArray → Nat
  | [], _ => 0
  | c :: l, s => if less c.2.1 s then posC l s + 1 else 0
def insC (l : List Ct) (t : Ct) : List Ct := l.take (posC l t.2.1) ++ t :: l.drop (posC l t.2.1)
theorem insC_perm (l : List Ct) (t : Ct) : (insC l t).Perm (l ++ [t]) := by
  unfold insC
  have h1 : (l.take (posC l t.2.1) ++ t :: l.drop (posC l t.2.1)).Perm (t :: (l.take (posC l t.2.1) ++ l.drop (posC l t.2.1))) := List.perm_middle
  rw [List.take_append_drop] at h1
  exact h1.trans (List.perm_append_comm (l₁ := [t]) (l₂ := l))
theorem posC_step {l : List Ct} {s : ByteArray} {k : Nat} {c : Ct} (h : ∀ x ∈ l.take k, less x.2.1 s = true) (hc : l[k]? = some c) (hl : less c.2.1 s = true) : ∀ x ∈ l.take (k + 1), less x.2.1 s = true := fun x hx => by
  rw [take_snoc hc] at hx
  rcases List.mem_append.1 hx with hx | hx
  · exact h x hx
  · rw [List.mem_singleton.1 hx]; exact hl
theorem posC_at : ∀ {l : List Ct} {s : ByteArray} {k : Nat}, (∀ x ∈ l.take k, less x.2.1 s = true) → k ≤ l.length → (∀ c, l[k]? = some c → less c.2.1 s = false) → posC l s = k
  | [], s, k, _, hk, _ => by simp at hk; subst hk; rfl
  | c :: l, s, 0, _, _, h => by
    have := h c rfl
    simp only [posC]; rw [if_neg (by rw [this]; decide)]
  | c :: l, s, k + 1, h1, hk, h2 => by
    have hc := h1 c (by simp)
    simp only [posC]; rw [if_pos hc]
    rw [posC_at (k := k) (fun x hx => h1 x (by simp [hx])) (by simpa using hk) (fun d hd => h2 d (by simpa using hd))]
theorem not_less_trans {a b c : ByteArray} (h1 : less b a = false) (h2 : less c b = false) : less c a = false := by
  cases h : less c a with
  | false => rfl
  | true =>
    cases h3 : less a b with
    | true => rw [lessB_trans h h3] at h2; cases h2
    | false => rw [lessB_conn h3 h1] at h; rw [h] at h2; cases h2
theorem insC_cons (c t : Ct) (l : List Ct) : insC (c :: l) t = if less c.2.1 t.2.1 then c :: insC l t else t :: c :: l := by
  unfold insC
  simp only [posC]
  split
  · simp
  · simp
theorem insC_srt : ∀ {l : List Ct} (t : Ct), SrtC l → SrtC (insC l t)
  | [], t, _ => List.pairwise_singleton _ _
  | c :: l, t, h => by
    have h1 := List.pairwise_cons.1 h
    rw [insC_cons]
    split
    · rename_i h2
      refine List.pairwise_cons.2 ⟨fun x hx => ?_, insC_srt t h1.2⟩
      rcases List.mem_append.1 ((insC_perm l t).mem_iff.1 hx) with hx | hx
      · exact h1.1 x hx
      · rw [List.mem_singleton.1 hx]; exact lessB_asymm h2
    · rename_i h2
      have h3 : less c.2.1 t.2.1 = false := by simpa using h2
      refine List.pairwise_cons.2 ⟨fun x hx => ?_, h⟩
      rcases List.mem_cons.1 hx with rfl | hx
      · exact h3
      · exact not_less_trans h3 (h1.1 x hx)
def allC (l : List Ct) (ts : List Ct) : List Ct := ts.foldl insC l
theorem allC_snoc (l ts : List Ct) (t : Ct) : allC l (ts ++ [t]) = insC (allC l ts) t := by unfold allC; rw [List.foldl_append]; rfl
theorem allC_perm : ∀ (ts l : List Ct), (allC l ts).Perm (l ++ ts)
  | [], l => by simp [allC]
  | t :: ts, l => by
    have h1 := allC_perm ts (insC l t)
    have h2 := (insC_perm l t).append_right ts
    have h3 := h1.trans h2
    simpa [allC] using h3
theorem allC_srt : ∀ (ts : List Ct) {l : List Ct}, SrtC l → SrtC (allC l ts)
  | [], _, h => h
  | t :: ts, _, h => allC_srt ts (insC_srt t h)
theorem lfE_four {d : ByteArray} (hd : ¬ (d ≠ ⟨#[]⟩ ∧ labB d = false)) : ∀ {cs : List Ct}, (∀ c ∈ cs, ruleE (ctT c) = 0) → lfE d cs ≠ 0 → lfE d cs = 4
  | [], _, h => absurd rfl h
  | c :: cs, hr, h => by
    simp only [lfE] at h ⊢
    split
    · rename_i h1
      have hfr := (ruleE_ok (hr c (by simp))).1
      unfold freB at hfr
      rw [Bool.and_eq_true] at hfr
      have hn : namT c.2.1 = true := hfr.1
      unfold joiE at h1 ⊢
      rw [if_neg (by rw [hn]; rintro (h | h); exact hd h; cases h)] at h1 ⊢
      split at h1
      · exact absurd rfl h1
      rename_i h2
      rw [if_neg h2]
      split at h1
      · rename_i h3; rw [if_pos h3]
      · exact absurd rfl h1
    · rename_i h1
      rw [if_neg h1] at h
      exact lfE_four hd (fun c hc => hr c (by simp [hc])) h
end Go.Proofs.YtddlohbhchjjhaaGreatDoor

namespace Go.Proofs.YtddlohbhchjjhaaGreatDoor
open Go.RowKit Go.Shelf

abbrev Rt := List Wd × Bool
def isR (t : Rt) (s : ByteArray) : Bool := !t.2 && (match t.1 with | [] => false | x :: _ => decide (x.1 = s))
def nxR (t : Rt) (fits : Bool) : Rt := if t.2 = true ∨ fits = false ∨ t.1 = [] then (t.1, true) else (t.1.tail, false)
def wdR (t : Rt) : ByteArray := if t.2 = true then ⟨#[]⟩ else nxtW t.1
def stD (s : ByteArray) : Bool := decide (s = semiW) || decide (s = visibleW)
def stV (s : ByteArray) : Bool := decide (s = semiW)
def headR (st : ByteArray → Bool) : List Wd → Bool
  | [] => false
  | y :: _ => st y.1
def lsR (v st : ByteArray → Bool) : List Wd → List ByteArray × Rt
  | [] => ([⟨#[]⟩], ([], true))
  | x :: ws => if v x.1 then (if headR st ws then ([x.1], (ws, false)) else (x.1 :: (lsR v st ws).1, (lsR v st ws).2)) else ([x.1], (x :: ws, true))
def depR (t : Rt) : List ByteArray × Rt := if isR t depsW then lsR frlB stD t.1.tail else ([], t)
def visR (t : Rt) : List ByteArray × Rt := if isR t visibleW then lsR viewB stV t.1.tail else ([], t)
def t1R (ws : List Wd) : Rt := nxR (ws, false) (isR (ws, false) libW || isR (ws, false) testW)
def t2R (ws : List Wd) : Rt := nxR (t1R ws) (freB (wdR (t1R ws)))
def rlR (ws : List Wd) : Ct × Rt :=
  (((if isR (ws, false) testW then 2 else 1), wdR (t1R ws), (depR (t2R ws)).1, (visR (depR (t2R ws)).2).1),
    nxR (visR (depR (t2R ws)).2).2 (isR (visR (depR (t2R ws)).2).2 semiW))

theorem depR_bad (ws : List Wd) : depR (ws, true) = ([], (ws, true)) := rfl
theorem visR_bad (ws : List Wd) : visR (ws, true) = ([], (ws, true)) := rfl
theorem isR_good (ws : List Wd) {s : ByteArray} (h : s ≠ ⟨#[]⟩) : isR (ws, false) s = decide (nxtW ws = s) := by
  cases ws with
  | nil => exact (decide_eq_false (fun e => h e.symm)).symm
  | cons x ws => rfl
theorem nxR_good {ws : List Wd} (h : ws ≠ []) : nxR (ws, false) true = (ws.tail, false) := if_neg (by simp [h])
theorem nxR_no (ws : List Wd) : nxR (ws, false) false = (ws, true) := if_pos (.inr (.inl rfl))
theorem ne_of_next {ws : List Wd} {s : ByteArray} (h : nxtW ws = s) (hs : s ≠ ⟨#[]⟩) : ws ≠ [] := by rintro rfl; exact hs h.symm
theorem lsR_el {v st : ByteArray → Bool} (hv : ∀ x, st x = true → v x = false) (h0 : v ⟨#[]⟩ = false) : ∀ ws : List Wd,
    lsR v st ws = if (elW v ws).1 = [] then ([nxtW ws], (ws, true)) else if headR st (elW v ws).2 = true then ((elW v ws).1, ((elW v ws).2, false)) else ((elW v ws).1 ++ [nxtW (elW v ws).2], ((elW v ws).2, true))
  | [] => rfl
  | x :: ws => by
    have ih := lsR_el hv h0 ws
    by_cases hx : v x.1 = true
    · have e1 : elW v (x :: ws) = (x.1 :: (elW v ws).1, (elW v ws).2) := if_pos hx
      have e2 : lsR v st (x :: ws) = if headR st ws = true then ([x.1], (ws, false)) else (x.1 :: (lsR v st ws).1, (lsR v st ws).2) := if_pos hx
      simp only [e1, e2]
      rw [if_neg (List.cons_ne_nil _ _)]
      by_cases hh : headR st ws = true
      · have he : elW v ws = ([], ws) := by
          cases ws with
          | nil => rfl
          | cons y ws => exact elW_stop (hv _ hh)
        rw [if_pos hh, he, if_pos hh]
      · rw [if_neg hh, ih]
        by_cases h1 : (elW v ws).1 = []
        · have he : (elW v ws).2 = ws := by
            cases ws with
            | nil => rfl
            | cons y ws =>
              simp only [elW] at h1 ⊢
              split at h1
              · simp at h1
              · rename_i h2; rw [if_neg h2]
          rw [if_pos h1, h1, he, if_neg hh]; rfl
        · rw [if_neg h1]
          by_cases h2 : headR st (elW v ws).2 = true
          · rw [if_pos h2, if_pos h2]
          · rw [if_neg h2, if_neg h2]; rfl
    · have e1 : elW v (x :: ws) = ([], x :: ws) := if_neg hx
      have e2 : lsR v st (x :: ws) = ([x.1], (x :: ws, true)) := if_neg hx
      simp only [e1, e2]
      rw [if_pos trivial]; rfl
theorem stD_no : ∀ x, stD x = true → frlB x = false := fun x h => by
  unfold stD at h
  rw [Bool.or_eq_true, decide_eq_true_eq, decide_eq_true_eq] at h
  rcases h with rfl | rfl <;> decide
theorem stV_no : ∀ x, stV x = true → viewB x = false := fun x h => by
  unfold stV at h
  rw [decide_eq_true_eq] at h
  subst h; decide
theorem okW_at {k : Nat} {ws u : List Wd} {c : Ct} (h : stW k ws = (u, c)) : okW k ws = (partW k u c).1 := by rw [okW, h]
theorem stW_at {k : Nat} {ws u : List Wd} {c : Ct} (h : stW k ws = (u, c)) : stW (k + 1) ws = (partW k u c).2 := by rw [stW, h]
theorem upto1 {p : Nat → Prop} (h0 : p 0) : ∀ j < 1, p j := fun j h => by
  have e : j = 0 := by omega
  rw [e]; exact h0
theorem uptoS {p : Nat → Prop} {k : Nat} (h : ∀ j < k, p j) (hk : p k) : ∀ j < k + 1, p j := fun j hj => by
  by_cases e : j = k
  · subst e; exact hk
  · exact h j (by omega)
theorem headR_not {st : ByteArray → Bool} {ws : List Wd} (h : ¬ headR st ws = true) (h0 : st ⟨#[]⟩ = false) : st (nxtW ws) = false := by
  cases ws with
  | nil => exact h0
  | cons x ws => simpa [headR, nxtW] using h
theorem part2_no {u : List Wd} {c : Ct} (h : nxtW u ≠ depsW) : partW 2 u c = (true, u, (c.1, c.2.1, [], c.2.2.2)) := by
  obtain ⟨a, b, d, e⟩ := c
  simp only [partW, optW]; rw [if_neg h]
theorem part2_yes {u : List Wd} {c : Ct} (h : nxtW u = depsW) : partW 2 u c = (decide (0 < (elW frlB u.tail).1.length), (elW frlB u.tail).2, (c.1, c.2.1, (elW frlB u.tail).1, c.2.2.2)) := by
  obtain ⟨a, b, d, e⟩ := c
  simp only [partW, optW]; rw [if_pos h]
theorem part3_no {u : List Wd} {c : Ct} (h : nxtW u ≠ visibleW) : partW 3 u c = (true, u, (c.1, c.2.1, c.2.2.1, [])) := by
  obtain ⟨a, b, d, e⟩ := c
  simp only [partW, optW]; rw [if_neg h]
theorem part3_yes {u : List Wd} {c : Ct} (h : nxtW u = visibleW) : partW 3 u c = (decide (0 < (elW viewB u.tail).1.length), (elW viewB u.tail).2, (c.1, c.2.1, c.2.2.1, (elW viewB u.tail).1)) := by
  obtain ⟨a, b, d, e⟩ := c
  simp only [partW, optW]; rw [if_pos h]
theorem part4_eq (u : List Wd) (c : Ct) : partW 4 u c = (decide (nxtW u = semiW), (if nxtW u = semiW then u.tail else u), c) := rfl
def RlS (ws : List Wd) : Prop :=
  ((∀ j < 5, okW j ws = true) ∧ rlR ws = ((stW 5 ws).2, (stW 5 ws).1, false)) ∨ ∃ k < 5, (∀ j < k, okW j ws = true) ∧ okW k ws = false ∧ (rlR ws).2 = ((stW (k + 1) ws).1, true)
theorem end_spec {ws u : List Wd} {c : Ct} (h4 : stW 4 ws = (u, c)) (hk : ∀ j < 4, okW j ws = true) (hr : rlR ws = (c, nxR (u, false) (isR (u, false) semiW))) : RlS ws := by
  have ho := okW_at h4
  have hs := stW_at h4
  rw [part4_eq] at ho hs
  by_cases he : nxtW u = semiW
  · left
    rw [if_pos he] at hs
    refine ⟨uptoS hk (by rw [ho, decide_eq_true he]), ?_⟩
    rw [hr, hs, isR_good u (by decide), decide_eq_true he, nxR_good (ne_of_next he (by decide))]
  · right
    rw [if_neg he] at hs
    refine ⟨4, by omega, hk, by rw [ho, decide_eq_false he], ?_⟩
    rw [hr, hs, isR_good u (by decide), decide_eq_false he, nxR_no]
theorem vis_spec {ws u : List Wd} {k : Int} {l : ByteArray} {d : List ByteArray} (h3 : stW 3 ws = (u, (k, l, d, []))) (hk : ∀ j < 3, okW j ws = true)
    (hr : rlR ws = ((k, l, d, (visR (u, false)).1), nxR (visR (u, false)).2 (isR (visR (u, false)).2 semiW))) : RlS ws := by
  have ho := okW_at h3
  have hs := stW_at h3
  by_cases hv : nxtW u = visibleW
  · rw [part3_yes hv] at ho hs
    have hvr : visR (u, false) = lsR viewB stV u.tail := by unfold visR; rw [isR_good u (by decide), decide_eq_true hv]; rfl
    have hl := lsR_el stV_no (by decide) u.tail
    rw [hvr, hl] at hr
    by_cases h1 : (elW viewB u.tail).1 = []
    · right
      have h2 : (elW viewB u.tail).2 = u.tail := by
        cases hu : u.tail with
        | nil => rfl
        | cons y us =>
          rw [hu] at h1
          simp only [elW] at h1 ⊢
          split at h1
          · simp at h1
          · rename_i h2; rw [if_neg h2]
      refine ⟨3, by omega, hk, by rw [ho, h1]; rfl, ?_⟩
      rw [hr, if_pos h1, hs, h2]; simp [nxR]
    · rw [if_neg h1] at hr
      have hok : okW 3 ws = true := by rw [ho, decide_eq_true (List.length_pos_iff.2 h1)]
      by_cases h2 : headR stV (elW viewB u.tail).2 = true
      · rw [if_pos h2] at hr
        exact end_spec hs (uptoS hk hok) hr
      · rw [if_neg h2] at hr
        have h3 := headR_not h2 (by decide)
        have ho4 := okW_at hs
        have hs4 := stW_at hs
        rw [part4_eq] at ho4 hs4
        have he : nxtW (elW viewB u.tail).2 ≠ semiW := by unfold stV at h3; exact of_decide_eq_false h3
        right
        refine ⟨4, by omega, uptoS hk hok, by rw [ho4, decide_eq_false he], ?_⟩
        rw [hr, hs4, if_neg he]; simp [nxR]
  · rw [part3_no hv] at ho hs
    have hvr : visR (u, false) = ([], (u, false)) := by unfold visR; rw [isR_good u (by decide), decide_eq_false hv]; rfl
    rw [hvr] at hr
    exact end_spec hs (uptoS hk ho) hr
theorem dep_spec {ws u : List Wd} {k : Int} {l : ByteArray} (h2 : stW 2 ws = (u, (k, l, [], []))) (hk : ∀ j < 2, okW j ws = true)
    (hr : rlR ws = ((k, l, (depR (u, false)).1, (visR (depR (u, false)).2).1), nxR (visR (depR (u, false)).2).2 (isR (visR (depR (u, false)).2).2 semiW))) : RlS ws := by
  have ho := okW_at h2
  have hs := stW_at h2
  by_cases hv : nxtW u = depsW
  · rw [part2_yes hv] at ho hs
    have hvr : depR (u, false) = lsR frlB stD u.tail := by unfold depR; rw [isR_good u (by decide), decide_eq_true hv]; rfl
    have hl := lsR_el stD_no frlB_none u.tail
    rw [hvr, hl] at hr
    by_cases h1 : (elW frlB u.tail).1 = []
    · right
      have h2 : (elW frlB u.tail).2 = u.tail := by
        cases hu : u.tail with
        | nil => rfl
        | cons y us =>
          rw [hu] at h1
          simp only [elW] at h1 ⊢
          split at h1
          · simp at h1
          · rename_i h2; rw [if_neg h2]
      refine ⟨2, by omega, hk, by rw [ho, h1]; rfl, ?_⟩
      rw [hr, if_pos h1, hs, h2, visR_bad]; simp [nxR]
    · rw [if_neg h1] at hr
      have hok : okW 2 ws = true := by rw [ho, decide_eq_true (List.length_pos_iff.2 h1)]
      by_cases h2 : headR stD (elW frlB u.tail).2 = true
      · rw [if_pos h2] at hr
        exact vis_spec hs (uptoS hk hok) hr
      · rw [if_neg h2, visR_bad] at hr
        have h3 := headR_not h2 (by decide)
        unfold stD at h3
        rw [Bool.or_eq_false_iff, decide_eq_false_iff_not, decide_eq_false_iff_not] at h3
        have ho3 := okW_at hs
        have hs3 := stW_at hs
        rw [part3_no h3.2] at ho3 hs3
        have ho4 := okW_at hs3
        have hs4 := stW_at hs3
        rw [part4_eq] at ho4 hs4
        right
        refine ⟨4, by omega, uptoS (uptoS hk hok) ho3, by rw [ho4, decide_eq_false h3.1], ?_⟩
        rw [hr, hs4, if_neg h3.1]; simp [nxR]
  · rw [part2_no hv] at ho hs
    have hvr : depR (u, false) = ([], (u, false)) := by unfold depR; rw [isR_good u (by decide), decide_eq_false hv]; rfl
    rw [hvr] at hr
    exact vis_spec hs (uptoS hk ho) hr
theorem rlR_spec (ws : List Wd) : RlS ws := by
  have h0 : stW 0 ws = (ws, ctZ) := rfl
  have ho := okW_at h0
  have hs := stW_at h0
  by_cases hf : nxtW ws = libW ∨ nxtW ws = testW
  · obtain ⟨kd, hkd, ho', hs'⟩ : ∃ kd : Int, (if isR (ws, false) testW = true then (2 : Int) else 1) = kd ∧ okW 0 ws = true ∧ stW 1 ws = (ws.tail, (kd, ⟨#[]⟩, [], [])) := by
      rw [isR_good ws (by decide)]
      rcases hf with h | h
      · refine ⟨1, by rw [h]; rfl, ?_, ?_⟩
        · rw [ho]; simp only [partW]; rw [if_pos h]
        · rw [hs]; simp only [partW]; rw [if_pos h]
      · have hn : nxtW ws ≠ libW := by rw [h]; decide
        refine ⟨2, by rw [h]; rfl, ?_, ?_⟩
        · rw [ho]; simp only [partW]; rw [if_neg hn]; simp [h]
        · rw [hs]; simp only [partW]; rw [if_neg hn, if_pos h]
    have ht1 : t1R ws = (ws.tail, false) := by
      unfold t1R
      rw [isR_good ws (by decide), isR_good ws (by decide)]
      have : (decide (nxtW ws = libW) || decide (nxtW ws = testW)) = true := by simpa using hf
      rw [this, nxR_good]
      rcases hf with h | h
      · exact ne_of_next h (by decide)
      · exact ne_of_next h (by decide)
    have ho1 := okW_at hs'
    have hs1 := stW_at hs'
    have hw : wdR (t1R ws) = nxtW ws.tail := by rw [ht1]; rfl
    by_cases hn : freB (nxtW ws.tail) = true
    · have hne : ws.tail ≠ [] := by
        intro e; rw [e] at hn; revert hn; decide
      have ht2 : t2R ws = (ws.tail.tail, false) := by unfold t2R; rw [hw, ht1, hn, nxR_good hne]
      have hs2 : stW 2 ws = (ws.tail.tail, (kd, nxtW ws.tail, [], [])) := by rw [hs1]; simp only [partW]; rw [if_pos hn]
      have ho2 : okW 1 ws = true := by rw [ho1]; simp only [partW]; exact hn
      refine dep_spec hs2 (uptoS (upto1 ho') ho2) ?_
      unfold rlR
      rw [hw, ht2, hkd]
    · have hn' : freB (nxtW ws.tail) = false := by simpa using hn
      right
      refine ⟨1, by omega, upto1 ho', by rw [ho1]; simp only [partW]; exact hn', ?_⟩
      have ht2 : t2R ws = (ws.tail, true) := by unfold t2R; rw [hw, ht1, hn', nxR_no]
      rw [hs1]
      simp only [partW]
      rw [if_neg hn]
      unfold rlR
      rw [ht2, depR_bad, visR_bad]; simp [nxR]
  · have h1 : nxtW ws ≠ libW := fun h => hf (.inl h)
    have h2 : nxtW ws ≠ testW := fun h => hf (.inr h)
    right
    refine ⟨0, by omega, fun j h => absurd h (by omega), by rw [ho]; simp only [partW]; rw [if_neg h1]; simp [h2], ?_⟩
    have ht1 : t1R ws = (ws, true) := by
      unfold t1R
      rw [isR_good ws (by decide), isR_good ws (by decide), decide_eq_false h1, decide_eq_false h2]; exact nxR_no _
    have ht2 : t2R ws = (ws, true) := by unfold t2R; rw [ht1]; simp [nxR]
    rw [hs]
    simp only [partW]
    rw [if_neg h1, if_neg h2]
    unfold rlR
    rw [ht2, depR_bad, visR_bad]; simp [nxR]
end Go.Proofs.YtddlohbhchjjhaaGreatDoor

namespace Go.Proofs.YtddlohbhchjjhaaGreatDoor
open Go.RowKit Go.Shelf

def TkV (B : Nat) (t : Rt) (v : Value) (W : World) : Prop := ∃ A n c, v = .agg #[.slice A n c, .bool t.2] ∧ Sl W B 2 A n (flat wdC t.1) ∧ n ≤ c ∧ c ≤ maxLen
theorem TkV.below {B B' : Nat} {t : Rt} {v : Value} {W W' : World} (h : TkV B t v W) (hb : Below B' W W') (hB : B ≤ B') : TkV B t v W' := by
  obtain ⟨A, n, c, h1, h2, h3, h4⟩ := h
  exact ⟨A, n, c, h1, h2.below hb hB, h3, h4⟩
theorem infoWd9 : (Tryz.prog.info? 185).map (fun i => (i.zero, i.size, i.bytes)) = some (some (.agg #[.string ⟨#[]⟩, .int .i64 0]), 2, 24) := by kernel_rfl
theorem res_cellT {fn : Func} {c : Tmp} (h : fn.results = #[.cell c 181]) {w : World} {a : Array Value} {b : Nat} {x y : Value} (ha : a[c]?.getD undef = .pointer (some ⟨b, 0, none⟩)) (hk : Bk w b 181 #[x, y]) :
    (results fn a).run Tryz.prog w = .ok (.agg #[x, y]) w := by
  have h0 := hk.cell 0; have h1 := hk.cell 1
  simp at h0 h1
  simp [results, h, ha, go_sem, h0, h1]
theorem Sl.wd0 {w : World} {B n : Nat} {A : Option Addr} {ws : List Wd} (h : Sl w B 2 A n (flat wdC ws)) (hn : 0 < n) :
    ∃ b off x r, A = some ⟨b, off, none⟩ ∧ b < B ∧ ws = x :: r ∧ w.cell? ⟨b, off, none⟩ = some (.string x.1) ∧ w.cell? ⟨b, off + 1, none⟩ = some (.int .i64 (x.2 : Int)) := by
  obtain ⟨b, off, x, e, hb, hx, hc⟩ := h.at_ wdC_len (by omega) hn
  cases ws with
  | nil => simp at hx
  | cons y r =>
    simp at hx
    subst hx
    have c0 := hc 0 _ rfl; have c1 := hc 1 _ rfl
    simp at c0 c1
    exact ⟨b, off, y, r, e, hb, rfl, c0, c1⟩
set_option maxRecDepth 100000 in
set_option maxHeartbeats 1000000 in
theorem tis_any (A : Option Addr) (n c B : Nat) (ws : List Wd) (bad : Bool) (s : ByteArray) (w : World) (h : Sl w B 2 A n (flat wdC ws)) (hB : B ≤ w.heap.size) (hc : c ≤ maxLen) (hn : n ≤ c) :
    Calls Tryz.prog 197 #[.agg #[.slice A n c, .bool bad], .string s] w fun e w' => e = .returned (.bool (isR (ws, bad) s)) ∧ Below w.heap.size w w' := by
  have HLW := Lib.hid (h.len wdC_len (by omega))
  have H0 := Lib.hid h
  clear h
  have hnm : n ≤ 9223372036854775807 := by unfold maxLen at hc; omega
  obtain ⟨W0, hW0⟩ : ∃ W0, w.alloc (.cells #[.slice A n c, .bool bad] 181) = W0 := ⟨_, rfl⟩
  have HB0 : Hid (Below w.heap.size w W0) := by rw [← hW0]; exact (Below.refl _ w).alloc (Nat.le_refl _) _
  have HK0 : Hid (Bk W0 w.heap.size 181 #[.slice A n c, .bool bad]) := by rw [← hW0]; exact Bk.new w _ _
  have x0 := HK0.out.cell 0; have x1 := HK0.out.cell 1
  simp at x0 x1
  go_enter Tryz.func197, Tryz.ntmps197
  cases bad with
  | true =>
    go_wp2_with fail
    go_ret
    exact ⟨rfl, HB0.out⟩
  | false =>
    rcases Nat.eq_zero_or_pos n with h0 | h0
    · subst h0
      obtain rfl : ws = [] := List.eq_nil_of_length_eq_zero HLW.out
      go_wp2_with fail
      go_ret
      exact ⟨rfl, HB0.out⟩
    · obtain ⟨b, off, x, r, rfl, hb, rfl, y0, y1⟩ := (H0.out.below HB0.out hB).wd0 h0
      have hz : (0 : Int) < (n : Int) := by omega
      have hse := str_dec x.1 s
      go_wp2_with fail
      go_ret
      exact ⟨ret_bool rfl, HB0.out⟩
set_option maxRecDepth 100000 in
set_option maxHeartbeats 1000000 in
theorem tword_any (A : Option Addr) (n c B : Nat) (ws : List Wd) (bad : Bool) (w : World) (h : Sl w B 2 A n (flat wdC ws)) (hB : B ≤ w.heap.size) (hc : c ≤ maxLen) (hn : n ≤ c) :
    Calls Tryz.prog 199 #[.agg #[.slice A n c, .bool bad]] w fun e w' => e = .returned (.string (wdR (ws, bad))) ∧ Below w.heap.size w w' := by
  have HLW := Lib.hid (h.len wdC_len (by omega))
  have H0 := Lib.hid h
  clear h
  have hnm : n ≤ 9223372036854775807 := by unfold maxLen at hc; omega
  obtain ⟨W0, hW0⟩ : ∃ W0, w.alloc (.cells #[.slice A n c, .bool bad] 181) = W0 := ⟨_, rfl⟩
  have HB0 : Hid (Below w.heap.size w W0) := by rw [← hW0]; exact (Below.refl _ w).alloc (Nat.le_refl _) _
  have HK0 : Hid (Bk W0 w.heap.size 181 #[.slice A n c, .bool bad]) := by rw [← hW0]; exact Bk.new w _ _
  have x0 := HK0.out.cell 0; have x1 := HK0.out.cell 1
  simp at x0 x1
  go_enter Tryz.func199, Tryz.ntmps199
  cases bad with
  | true =>
    go_wp2_with fail
    go_ret
    exact ⟨rfl, HB0.out⟩
  | false =>
    rcases Nat.eq_zero_or_pos n with h0 | h0
    · subst h0
      obtain rfl : ws = [] := List.eq_nil_of_length_eq_zero HLW.out
      go_wp2_with fail
      go_ret
      exact ⟨rfl, HB0.out⟩
    · obtain ⟨b, off, x, r, rfl, hb, rfl, y0, y1⟩ := (H0.out.below HB0.out hB).wd0 h0
      have hz : (0 : Int) < (n : Int) := by omega
      have hz2 : ¬ (n : Int) = 0 := by omega
      have hz3 : ((n : Int) == 0) = false := by rw [beq_eq_false_iff_ne]; omega
      go_wp2_with fail
      go_ret
      exact ⟨rfl, HB0.out⟩
set_option maxRecDepth 100000 in
set_option maxHeartbeats 2000000 in
theorem tnext_any (A : Option Addr) (n c B : Nat) (ws : List Wd) (bad fits : Bool) (w : World) (h : Sl w B 2 A n (flat wdC ws)) (hB : B ≤ w.heap.size) (hc : c ≤ maxLen) (hn : n ≤ c) :
    Calls Tryz.prog 198 #[.agg #[.slice A n c, .bool bad], .bool fits] w fun e w' => ∃ v, e = .returned v ∧ TkV B (nxR (ws, bad) fits) v w' ∧ Below w.heap.size w w' := by
  have HLW := Lib.hid (h.len wdC_len (by omega))
  have H0 := Lib.hid h
  clear h
  have hnm : n ≤ 9223372036854775807 := by unfold maxLen at hc; omega
  obtain ⟨W0, hW0⟩ : ∃ W0, w.alloc (.cells #[.slice A n c, .bool bad] 181) = W0 := ⟨_, rfl⟩
  obtain ⟨W1, hW1⟩ : ∃ W1, W0.alloc (.cells #[.slice none 0 0, .bool false] 181) = W1 := ⟨_, rfl⟩
  have zW0 : W0.heap.size = w.heap.size + 1 := by rw [← hW0]; simp
  have HB1 : Hid (Below w.heap.size w W1) := by rw [← hW1, ← hW0]; exact ((Below.refl _ w).alloc (Nat.le_refl _) _).alloc (by simp) _
  have HK0 : Hid (Bk W1 w.heap.size 181 #[.slice A n c, .bool bad]) := by rw [← hW1, ← hW0]; exact (Bk.new w _ _).alloc _
  have HK1 : Hid (Bk W1 (w.heap.size + 1) 181 #[.slice none 0 0, .bool false]) := by
    rw [← hW1]; have := Bk.new W0 181 #[.slice none 0 0, .bool false]; rwa [zW0] at this
  have x0 := HK0.out.cell 0; have x1 := HK0.out.cell 1; have q0 := HK1.out.cell 0; have q1 := HK1.out.cell 1
  simp at x0 x1 q0 q1
  have f1 := HK0.out.free 1
  have g0 := HK1.out.free 0; have g1 := HK1.out.free 1
  by_cases hgo : bad = true ∨ fits = false ∨ n = 0
  · have HNX : Hid (nxR (ws, bad) fits = (ws, true)) := by
      refine if_pos ?_
      rcases hgo with h | h | h
      · exact .inl h
      · exact .inr (.inl h)
      · subst h; exact .inr (.inr (List.eq_nil_of_length_eq_zero HLW.out))
    obtain ⟨W2, hW2⟩ : ∃ W2, W1.setCell ⟨w.heap.size, 1, none⟩ (.bool true) = W2 := ⟨_, rfl⟩
    have HK02 : Hid (Bk W2 w.heap.size 181 #[.slice A n c, .bool true]) := by
      rw [← hW2]; have := HK0.out.set 1 (.bool true); show Bk _ _ _ _; simpa using this
    have HK12 : Hid (Bk W2 (w.heap.size + 1) 181 #[.slice none 0 0, .bool false]) := by
      rw [← hW2]; exact HK1.out.far (by show w.heap.size + 1 ≠ w.heap.size; omega) _
    have HB2 : Hid (Below w.heap.size w W2) := by rw [← hW2]; exact HB1.out.setCell (Nat.le_refl _) _
    have y0 := HK02.out.cell 0; have y1 := HK02.out.cell 1; have z0 := HK12.out.cell 0; have z1 := HK12.out.cell 1
    simp at y0 y1 z0 z1
    have h0 := HK12.out.free 0; have h1 := HK12.out.free 1
    have hend : ∀ W', W' = (W2.setCell ⟨w.heap.size + 1, 0, none⟩ (.slice A n c)).setCell ⟨w.heap.size + 1, 1, none⟩ (.bool true) → TkV B (nxR (ws, bad) fits) (.agg #[.slice A n c, .bool true]) W' ∧ Below w.heap.size w W' := fun W' e => by
      have hb : Below w.heap.size w W' := by rw [e]; exact below_set2 HB2.out (Nat.le_succ _) _ _
      rw [HNX.out]
      exact ⟨⟨A, n, c, rfl, H0.out.below hb hB, hn, hc⟩, hb⟩
    have HEND := Lib.hid hend
    clear hend
    go_enter Tryz.func198, Tryz.ntmps198
    cases bad with
    | true =>
      clear hgo
      go_wp2_with fail
      exact bodyPost_ret (res_cellT Tryz.results198 rfl (HK12.out.set2 _ _)) rfl ⟨_, rfl, HEND.out _ rfl⟩
    | false =>
      cases fits with
      | false =>
        clear hgo
        go_wp2_with fail
        exact bodyPost_ret (res_cellT Tryz.results198 rfl (HK12.out.set2 _ _)) rfl ⟨_, rfl, HEND.out _ rfl⟩
      | true =>
        obtain rfl : n = 0 := by rcases hgo with h | h | h; cases h; cases h; exact h
        clear hgo
        go_wp2_with fail
        exact bodyPost_ret (res_cellT Tryz.results198 rfl (HK12.out.set2 _ _)) rfl ⟨_, rfl, HEND.out _ rfl⟩
  · obtain rfl : bad = false := by cases bad; rfl; exact absurd (.inl rfl) hgo
    obtain rfl : fits = true := by cases fits; exact absurd (.inr (.inl rfl)) hgo; rfl
    have hpos : 0 < n := Nat.pos_of_ne_zero fun e => hgo (.inr (.inr e))
    obtain ⟨b, off, x, r, rfl, hb, rfl, y0, y1⟩ := H0.out.wd0 hpos
    have hz : ((n : Int) == 0) = false := by rw [beq_eq_false_iff_ne]; omega
    have HNX : Hid (nxR (x :: r, false) true = (r, false)) := if_neg (by simp)
    have hnr : r.length = n - 1 := by have := HLW.out; simp at this; omega
    have hend : ∀ A' m c' W', m = n - 1 → (c' = 0 ∧ n = 1 ∨ A' = some ⟨b, off + 2, none⟩) → n - 1 ≤ c' → c' ≤ maxLen → W' = (W1.setCell ⟨w.heap.size + 1, 0, none⟩ (.slice A' m c')).setCell ⟨w.heap.size + 1, 1, none⟩ (.bool false) → TkV B (nxR (x :: r, false) true) (.agg #[.slice A' m c', .bool false]) W' ∧ Below w.heap.size w W' := fun A' m c' W' hm hA h1 h2 e => by
      subst hm
      have hb' : Below w.heap.size w W' := by rw [e]; exact below_set2 HB1.out (Nat.le_succ _) _ _
      rw [HNX.out]
      refine ⟨⟨A', n - 1, c', rfl, ⟨by rw [flat_len wdC_len, hnr], fun hn0 => ?_⟩, h1, h2⟩, hb'⟩
      rcases hA with ⟨_, h⟩ | rfl
      · omega
      · refine ⟨b, off + 2, rfl, hb, fun j u hu => ?_⟩
        obtain ⟨b', off', e', _, hc'⟩ := (H0.out.below hb' hB).2 hpos
        cases e'
        have := hc' (j + 2) u (by simpa [flat, wdC] using hu)
        rw [show off + 2 + j = off + (j + 2) by omega]; exact this
    have HEND := Lib.hid hend
    clear hend hgo hnr HLW
    go_enter Tryz.func198, Tryz.ntmps198
    by_cases hc1 : c = 1
    · subst hc1
      have HN1 : Hid (n = 1) := by show n = 1; omega
      go_wp2_with fail
      exact bodyPost_ret (res_cellT Tryz.results198 rfl (HK1.out.set2 _ _)) rfl ⟨_, rfl, HEND.out _ _ _ _ (by have := HN1.out; omega) (.inl ⟨rfl, HN1.out⟩) (by have := HN1.out; omega) (by omega) rfl⟩
    · go_wp2_with fail
      exact bodyPost_ret (res_cellT Tryz.results198 rfl (HK1.out.set2 _ _)) rfl ⟨_, rfl, HEND.out _ _ _ _ rfl (.inr rfl) (by omega) (by omega) rfl⟩
end Go.Proofs.YtddlohbhchjjhaaGreatDoor

namespace Go.Proofs.YtddlohbhchjjhaaGreatDoor
open Go.RowKit Go.Maps

end Go.Proofs.YtddlohbhchjjhaaGreatDoor
