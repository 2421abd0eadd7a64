/-
  Lemmas: The reference's bounds on files, and slices.ContainsFunc over files with the statement's closure. slices.IndexFunc over targets with the statements' closures: the first target with a label. GraphLoads.
-/
import Derived.Deep.QuietTactic
import Derived.BigQuiet
import Derived.Deep.CutRange
import Derived.Test.YtddlohbhchjjhaaGreatDoorU13

namespace Go.Proofs.YtddlohbhchjjhaaGreatDoor
open Go.RowKit Go.Maps

def Gr9End (n : Nat) (fs : List Fl) (w : World) (e : Ending) (w' : World) : Prop := ∃ r : Bool, e = .returned (.bool r) ∧ (r = false → n ≤ 10 ∧ ∀ f ∈ fs, f.1.size ≤ 120 ∧ f.2.size ≤ 200) ∧ w = w'
set_option maxRecDepth 100000 in
set_option maxHeartbeats 2000000 in
theorem great9_any (A : Option Addr) (n c B : Nat) (fs : List Fl) (w : World) (h0 : Sl w B 2 A n (flat flC fs)) (hn : n ≤ maxLen) (hs : ∀ f ∈ fs, f.1.size ≤ maxLen ∧ f.2.size ≤ maxLen) :
    Calls Tryz.prog 11 #[.slice A n c] w (Gr9End n fs w) := by
  unfold maxLen at hn
  have HL0 := Lib.hid (h0.len flC_len (by omega))
  have H0 := Lib.hid h0; clear h0
  have HS := Lib.hid hs; clear hs
  go_enter Tryz.func11, Tryz.ntmps11
  by_cases hbig : (10 : Int) < (n : Int)
  · go_wp2
    go_ret
    exact ⟨true, rfl, (fun e => by cases e), rfl⟩
  go_wp2
  go_loopw [3] (fun i wr => ∃ k : Nat, k ≤ n ∧ i = .int .i64 k ∧ wr = w ∧ Hid (∀ f ∈ fs.take k, f.1.size ≤ 120 ∧ f.2.size ≤ 200)) (fun i _ => n - (intOf i).toNat)
  case atStart => exact ⟨0, Nat.zero_le _, rfl, rfl, fun y hy => by simp at hy⟩
  case round =>
    obtain ⟨k, hk, rfl, rfl, hN⟩ := hrel
    by_cases hlt : k < n
    · obtain ⟨b, off, f, rfl, hb, hf, y0, y1⟩ := H0.out.fl hlt
      have hkz : (k : Int) < (n : Int) := by omega
      have hfs := HS.out f (List.mem_of_getElem? hf)
      have hf1 : f.1.size ≤ 9223372036854775807 := by have := hfs.1; unfold maxLen at this; exact this
      have hf2 : f.2.size ≤ 9223372036854775807 := by have := hfs.2; unfold maxLen at this; exact this
      have HF := Lib.hid hf; clear hf hfs
      by_cases c1 : (120 : Int) < (f.1.size : Int)
      · go_wp2
        go_ret
        exact ⟨true, rfl, (fun e => by cases e), rfl⟩
      by_cases c2 : (200 : Int) < (f.2.size : Int)
      · go_wp2
        go_ret
        exact ⟨true, rfl, (fun e => by cases e), rfl⟩
      have HN : Hid (∀ f ∈ fs.take (k + 1), f.1.size ≤ 120 ∧ f.2.size ≤ 200) := fun y hy => by
        rw [take_snoc HF.out] at hy
        rcases List.mem_append.1 hy with hy | hy
        · exact hN.out y hy
        · rw [List.mem_singleton.1 hy]; exact ⟨by omega, by omega⟩
      go_wp2
      go_roundw
      case rel => exact ⟨k + 1, hlt, by go_num, trivial, HN.out⟩
      case measure => simp [intOf]; omega
    · have hkz : ¬ (k : Int) < (n : Int) := by omega
      have HN : Hid (∀ f ∈ fs, f.1.size ≤ 120 ∧ f.2.size ≤ 200) := by
        have := hN.out
        rwa [List.take_of_length_le (by rw [HL0.out]; omega)] at this
      go_wp2
      go_ret
      exact ⟨false, rfl, (fun _ => ⟨by omega, HN.out⟩), rfl⟩
set_option maxHeartbeats 400000 in
theorem isPk_any (f : Fl) (lab : ByteArray) (b : Nat) (w : World) (hc : w.cell? ⟨b, 0, none⟩ = some (.string lab)) (hb : b < w.heap.size) (hl : lab.size ≤ 1000000) :
    Calls Tryz.prog 23 #[.agg #[.string f.1, .string f.2], .pointer (some ⟨b, 0, none⟩)] w fun e w' => e = .returned (.bool (decide (f.1 = lab ++ pkW))) ∧ Below w.heap.size w w' := by
  have HB0 : Hid (Below w.heap.size w (w.alloc (.cells #[.string f.1, .string f.2] 42))) := (Below.refl _ w).alloc (Nat.le_refl _) _
  have c0 := (HB0.out.cell (p := ⟨b, 0, none⟩) hb).trans hc
  have k0 := (Bk.new w 42 #[.string f.1, .string f.2]).cell 0
  simp only [List.getElem?_toArray, List.getElem?_cons_zero] at k0
  have hsz : ¬ (9223372036854775807 < lab.size + pkW.size) := by have : pkW.size = 3 := rfl; omega
  clear hc
  go_enter Tryz.func23, Tryz.ntmps23
  go_wp2
  go_ret
  exact ⟨ret_bool (str_dec f.1 (lab ++ pkW)), HB0.out⟩
/-- the index of the first file of a module -/
def PkEnd (fs : List Fl) (lab : ByteArray) (w : World) (e : Ending) (w' : World) : Prop := ∃ z : Int, e = .returned (.int .i64 z) ∧ (memB (fs.map Prod.fst) (lab ++ pkW) = true → 0 ≤ z) ∧ Below w.heap.size w w'
set_option maxRecDepth 100000 in
set_option maxHeartbeats 1000000 in
theorem indexF_any (A : Option Addr) (n c B b : Nat) (fs : List Fl) (lab : ByteArray) (w : World) (h0 : Sl w B 2 A n (flat flC fs)) (hB : B ≤ w.heap.size) (hn : n ≤ 1000000) (hc : w.cell? ⟨b, 0, none⟩ = some (.string lab)) (hb : b < w.heap.size) (hl : lab.size ≤ 1000000) :
    Calls Tryz.prog 69 #[.slice A n c, .func (.func 23) #[] #[.pointer (some ⟨b, 0, none⟩)]] w (PkEnd fs lab w) := by
  have HL := Lib.hid (h0.len flC_len (by omega))
  have H0 := Lib.hid h0; have HC := Lib.hid hc
  clear h0 hc
  go_enter Tryz.func69, Tryz.ntmps69
  go_wp2
  go_loopw [8] (fun i wr => ∃ k : Nat, k ≤ n ∧ i = .int .i64 k ∧ Hid (∀ f ∈ fs.take k, f.1 ≠ lab ++ pkW) ∧ Hid (Below w.heap.size w wr)) (fun i _ => n - (intOf i).toNat)
  case atStart => exact ⟨0, Nat.zero_le _, rfl, fun f hf => by simp at hf, Below.refl _ _⟩
  case round =>
    obtain ⟨k, hk, rfl, hF, hBel⟩ := hrel
    by_cases hlt : k < n
    · obtain ⟨bb, off, f, rfl, hbB, hf, y0, y1⟩ := (H0.out.below hBel.out hB).fl hlt
      have hlz : (k : Int) < (n : Int) := by omega
      have hcr := (hBel.out.cell (p := ⟨b, 0, none⟩) hb).trans HC.out
      have HI := Lib.hid (isPk_any f lab b wr hcr (Nat.lt_of_lt_of_le hb hBel.out.size) hl)
      have HT := Lib.hid hf
      clear hf hcr
      by_cases e : f.1 = lab ++ pkW
      · rw [decide_eq_true e] at HI
        clear e
        go_wp2_with (go_at_call 23; refine HI.out.mono ?_; rintro e w1 ⟨rfl, hb1⟩)
        go_ret
        exact ⟨_, rfl, (fun _ => by omega), hBel.out.trans (hb1.mono hBel.out.size)⟩
      · rw [decide_eq_false e] at HI
        have HE : Hid (∀ f ∈ fs.take (k + 1), f.1 ≠ lab ++ pkW) := fun y hy => by
          rw [take_snoc HT.out] at hy
          rcases List.mem_append.1 hy with hy | hy
          · exact hF.out y hy
          · rw [List.mem_singleton.1 hy]; exact e
        clear e
        go_wp2_with (go_at_call 23; refine HI.out.mono ?_; rintro e w1 ⟨rfl, hb1⟩)
        go_roundw
        case rel => exact ⟨k + 1, by omega, by go_num, HE.out, hBel.out.trans (hb1.mono hBel.out.size)⟩
        case measure => simp [intOf]; omega
    · have hlz : ¬ (k : Int) < (n : Int) := by omega
      have HN : Hid (memB (fs.map Prod.fst) (lab ++ pkW) = true → False) := fun hm => by
        obtain ⟨f, hf, e⟩ := List.mem_map.1 ((memB_iff _ _).1 hm)
        exact hF.out f (by rw [List.take_of_length_le (by rw [HL.out]; omega)]; exact hf) e
      go_wp2
      go_ret
      exact ⟨_, rfl, (fun h => (HN.out h).elim), hBel.out⟩
set_option maxRecDepth 100000 in
set_option maxHeartbeats 1000000 in
theorem containsF_any (A : Option Addr) (n c B b : Nat) (fs : List Fl) (lab : ByteArray) (w : World) (h0 : Sl w B 2 A n (flat flC fs)) (hB : B ≤ w.heap.size) (hn : n ≤ 1000000) (hc : w.cell? ⟨b, 0, none⟩ = some (.string lab)) (hb : b < w.heap.size) (hl : lab.size ≤ 1000000) (hm : memB (fs.map Prod.fst) (lab ++ pkW) = true) :
    Calls Tryz.prog 22 #[.slice A n c, .func (.func 23) #[] #[.pointer (some ⟨b, 0, none⟩)]] w fun e w' => e = .returned (.bool true) ∧ Below w.heap.size w w' := by
  have HI := Lib.hid (indexF_any A n c B b fs lab w h0 hB hn hc hb hl)
  have HM := Lib.hid hm
  clear h0 hc hm
  go_enter Tryz.func22, Tryz.ntmps22
  go_wp2_with fail
  refine HI.out.mono ?_
  rintro e w1 ⟨z, rfl, hz, hb1⟩
  have hz0 : 0 ≤ z := hz HM.out
  have hz1 : z ≥ 0 := hz0
  go_wp2_with fail
  go_ret
  exact ⟨rfl, hb1⟩
end Go.Proofs.YtddlohbhchjjhaaGreatDoor

namespace Go.Proofs.YtddlohbhchjjhaaGreatDoor
open Go.RowKit Go.Maps

theorem findT_app : ∀ (a b : List Tg) (s : ByteArray), findT (a ++ b) s = match findT a s with | some x => some x | none => findT b s
  | [], b, s => by simp [findT]
  | r :: a, b, s => by
    simp only [List.cons_append, findT]
    by_cases e : r.lab = s
    · simp [e]
    · rw [if_neg e, if_neg e, findT_app a b s]
theorem findT_here {ts : List Tg} {s : ByteArray} {k : Nat} {t : Tg} (h : findT (ts.take k) s = none) (ht : ts[k]? = some t) (hs : t.lab = s) : findT ts s = some t := by
  have hk := List.getElem?_eq_some_iff.1 ht
  have e : ts = ts.take k ++ t :: ts.drop (k + 1) := by
    rw [← hk.2, List.getElem_cons_drop, List.take_append_drop]
  rw [e, findT_app, h]
  simp [findT, hs]
theorem findT_pass {ts : List Tg} {s : ByteArray} {k : Nat} {t : Tg} (h : findT (ts.take k) s = none) (ht : ts[k]? = some t) (hs : t.lab ≠ s) : findT (ts.take (k + 1)) s = none := by
  rw [take_snoc ht, findT_snoc, h]; simp [hs]
/-- what IndexFunc answers -/
def InxEnd (ts : List Tg) (lab : ByteArray) (w : World) (e : Ending) (w' : World) : Prop :=
  ∃ z : Int, e = .returned (.int .i64 z) ∧ ((∃ (k : Nat) (t : Tg), z = (k : Int) ∧ ts[k]? = some t ∧ findT ts lab = some t) ∨ (z = -1 ∧ findT ts lab = none)) ∧ Below w.heap.size w w'

set_option maxHeartbeats 400000 in
theorem cys1_any (t : Tg) (lab : ByteArray) (b : Nat) (w : World) (hc : w.cell? ⟨b, 0, none⟩ = some (.string lab)) (hb : b < w.heap.size) :
    Calls Tryz.prog 30 #[tgV t, .pointer (some ⟨b, 0, none⟩)] w fun e w' => e = .returned (.bool (decide (t.lab = lab))) ∧ Below w.heap.size w w' := by
  obtain ⟨tl, kind, dA, dn, dc, deps, vA, vn, vc, vis⟩ := t
  have HB0 : Hid (Below w.heap.size w (w.alloc (.cells #[.string tl, .int .i64 kind, .slice dA dn dc, .slice vA vn vc] 35))) := (Below.refl _ w).alloc (Nat.le_refl _) _
  have c0 := (HB0.out.cell (p := ⟨b, 0, none⟩) hb).trans hc
  have k0 := (Bk.new w 35 #[.string tl, .int .i64 kind, .slice dA dn dc, .slice vA vn vc]).cell 0
  simp only [List.getElem?_toArray, List.getElem?_cons_zero] at k0
  simp only [tgV]
  clear hc
  go_enter Tryz.func30, Tryz.ntmps30
  go_wp2
  go_ret
  exact ⟨ret_bool (str_dec tl lab), HB0.out⟩

set_option maxRecDepth 100000 in
set_option maxHeartbeats 1000000 in
theorem cys_any (A : Option Addr) (n c B b : Nat) (ts : List Tg) (lab : ByteArray) (w : World) (h0 : Sl w B 4 A n (flat tgC ts)) (hB : B ≤ w.heap.size) (hn : n ≤ 1000000) (hc : w.cell? ⟨b, 0, none⟩ = some (.string lab)) (hb : b < w.heap.size) :
    Calls Tryz.prog 24 #[.slice A n c, .func (.func 30) #[] #[.pointer (some ⟨b, 0, none⟩)]] w (InxEnd ts lab w) := by
  have HL := Lib.hid (h0.len tgC_len (by omega))
  have H0 := Lib.hid h0; have HC := Lib.hid hc
  clear h0 hc
  go_enter Tryz.func24, Tryz.ntmps24
  go_wp2
  go_loopw [8] (fun i wr => ∃ k : Nat, k ≤ n ∧ i = .int .i64 k ∧ Hid (findT (ts.take k) lab = none) ∧ Hid (Below w.heap.size w wr)) (fun i _ => n - (intOf i).toNat)
  case atStart => exact ⟨0, Nat.zero_le _, rfl, rfl, Below.refl _ _⟩
  case round =>
    obtain ⟨k, hk, rfl, hF, hBel⟩ := hrel
    by_cases hlt : k < n
    · obtain ⟨bb, off, t, rfl, hbB, ht, y0, y1, y2, y3⟩ := (H0.out.below hBel.out hB).tg hlt
      have hlz : (k : Int) < (n : Int) := by omega
      have hcr := (hBel.out.cell (p := ⟨b, 0, none⟩) hb).trans HC.out
      have HI := Lib.hid (cys1_any t lab b wr hcr (Nat.lt_of_lt_of_le hb hBel.out.size))
      have HT := Lib.hid ht
      clear ht hcr
      by_cases e : t.lab = lab
      · have HE := Lib.hid (findT_here hF.out HT.out e)
        have hd : decide (t.lab = lab) = true := by simp [e]
        rw [hd] at HI
        clear e hd
        obtain ⟨tl, kind, dA, dn, dc, deps, vA, vn, vc, vis⟩ := t
        simp only [tgV] at HI y0 y1 y2 y3
        go_wp2_with (go_at_call 30; refine HI.out.mono ?_; rintro e w1 ⟨rfl, hb1⟩)
        go_ret
        exact ⟨_, rfl, .inl ⟨k, _, rfl, HT.out, HE.out⟩, hBel.out.trans (hb1.mono hBel.out.size)⟩
      · have HE := Lib.hid (findT_pass hF.out HT.out e)
        have hd : decide (t.lab = lab) = false := by simp [e]
        rw [hd] at HI
        clear e hd
        obtain ⟨tl, kind, dA, dn, dc, deps, vA, vn, vc, vis⟩ := t
        simp only [tgV] at HI y0 y1 y2 y3
        go_wp2_with (go_at_call 30; refine HI.out.mono ?_; rintro e w1 ⟨rfl, hb1⟩)
        go_roundw
        case rel => exact ⟨k + 1, by omega, by go_num, HE.out, hBel.out.trans (hb1.mono hBel.out.size)⟩
        case measure => simp [intOf]; omega
    · have hlz : ¬ (k : Int) < (n : Int) := by omega
      have HN : Hid (findT ts lab = none) := by
        have h1 := hF.out
        rwa [List.take_of_length_le (by rw [HL.out]; omega)] at h1
      go_wp2
      go_ret
      exact ⟨_, rfl, .inr ⟨rfl, HN.out⟩, hBel.out⟩

set_option maxHeartbeats 400000 in
theorem lds1_any (t : Tg) (lab : ByteArray) (b : Nat) (w : World) (hc : w.cell? ⟨b, 0, none⟩ = some (.string lab)) (hb : b < w.heap.size) :
    Calls Tryz.prog 25 #[tgV t, .pointer (some ⟨b, 0, none⟩)] w fun e w' => e = .returned (.bool (decide (t.lab = lab))) ∧ Below w.heap.size w w' := by
  obtain ⟨tl, kind, dA, dn, dc, deps, vA, vn, vc, vis⟩ := t
  have HB0 : Hid (Below w.heap.size w (w.alloc (.cells #[.string tl, .int .i64 kind, .slice dA dn dc, .slice vA vn vc] 35))) := (Below.refl _ w).alloc (Nat.le_refl _) _
  have c0 := (HB0.out.cell (p := ⟨b, 0, none⟩) hb).trans hc
  have k0 := (Bk.new w 35 #[.string tl, .int .i64 kind, .slice dA dn dc, .slice vA vn vc]).cell 0
  simp only [List.getElem?_toArray, List.getElem?_cons_zero] at k0
  simp only [tgV]
  clear hc
  go_enter Tryz.func25, Tryz.ntmps25
  go_wp2
  go_ret
  exact ⟨ret_bool (str_dec tl lab), HB0.out⟩

set_option maxRecDepth 100000 in
set_option maxHeartbeats 1000000 in
theorem lds_any (A : Option Addr) (n c B b : Nat) (ts : List Tg) (lab : ByteArray) (w : World) (h0 : Sl w B 4 A n (flat tgC ts)) (hB : B ≤ w.heap.size) (hn : n ≤ 1000000) (hc : w.cell? ⟨b, 0, none⟩ = some (.string lab)) (hb : b < w.heap.size) :
    Calls Tryz.prog 24 #[.slice A n c, .func (.func 25) #[] #[.pointer (some ⟨b, 0, none⟩)]] w (InxEnd ts lab w) := by
  have HL := Lib.hid (h0.len tgC_len (by omega))
  have H0 := Lib.hid h0; have HC := Lib.hid hc
  clear h0 hc
  go_enter Tryz.func24, Tryz.ntmps24
  go_wp2
  go_loopw [8] (fun i wr => ∃ k : Nat, k ≤ n ∧ i = .int .i64 k ∧ Hid (findT (ts.take k) lab = none) ∧ Hid (Below w.heap.size w wr)) (fun i _ => n - (intOf i).toNat)
  case atStart => exact ⟨0, Nat.zero_le _, rfl, rfl, Below.refl _ _⟩
  case round =>
    obtain ⟨k, hk, rfl, hF, hBel⟩ := hrel
    by_cases hlt : k < n
    · obtain ⟨bb, off, t, rfl, hbB, ht, y0, y1, y2, y3⟩ := (H0.out.below hBel.out hB).tg hlt
      have hlz : (k : Int) < (n : Int) := by omega
      have hcr := (hBel.out.cell (p := ⟨b, 0, none⟩) hb).trans HC.out
      have HI := Lib.hid (lds1_any t lab b wr hcr (Nat.lt_of_lt_of_le hb hBel.out.size))
      have HT := Lib.hid ht
      clear ht hcr
      by_cases e : t.lab = lab
      · have HE := Lib.hid (findT_here hF.out HT.out e)
        have hd : decide (t.lab = lab) = true := by simp [e]
        rw [hd] at HI
        clear e hd
        obtain ⟨tl, kind, dA, dn, dc, deps, vA, vn, vc, vis⟩ := t
        simp only [tgV] at HI y0 y1 y2 y3
        go_wp2_with (go_at_call 25; refine HI.out.mono ?_; rintro e w1 ⟨rfl, hb1⟩)
        go_ret
        exact ⟨_, rfl, .inl ⟨k, _, rfl, HT.out, HE.out⟩, hBel.out.trans (hb1.mono hBel.out.size)⟩
      · have HE := Lib.hid (findT_pass hF.out HT.out e)
        have hd : decide (t.lab = lab) = false := by simp [e]
        rw [hd] at HI
        clear e hd
        obtain ⟨tl, kind, dA, dn, dc, deps, vA, vn, vc, vis⟩ := t
        simp only [tgV] at HI y0 y1 y2 y3
        go_wp2_with (go_at_call 25; refine HI.out.mono ?_; rintro e w1 ⟨rfl, hb1⟩)
        go_roundw
        case rel => exact ⟨k + 1, by omega, by go_num, HE.out, hBel.out.trans (hb1.mono hBel.out.size)⟩
        case measure => simp [intOf]; omega
    · have hlz : ¬ (k : Int) < (n : Int) := by omega
      have HN : Hid (findT ts lab = none) := by
        have h1 := hF.out
        rwa [List.take_of_length_le (by rw [HL.out]; omega)] at h1
      go_wp2
      go_ret
      exact ⟨_, rfl, .inr ⟨rfl, HN.out⟩, hBel.out⟩

set_option maxHeartbeats 400000 in
theorem bds1_any (t : Tg) (lab : ByteArray) (b : Nat) (w : World) (hc : w.cell? ⟨b, 0, none⟩ = some (.string lab)) (hb : b < w.heap.size) :
    Calls Tryz.prog 40 #[tgV t, .pointer (some ⟨b, 0, none⟩)] w fun e w' => e = .returned (.bool (decide (t.lab = lab))) ∧ Below w.heap.size w w' := by
  obtain ⟨tl, kind, dA, dn, dc, deps, vA, vn, vc, vis⟩ := t
  have HB0 : Hid (Below w.heap.size w (w.alloc (.cells #[.string tl, .int .i64 kind, .slice dA dn dc, .slice vA vn vc] 35))) := (Below.refl _ w).alloc (Nat.le_refl _) _
  have c0 := (HB0.out.cell (p := ⟨b, 0, none⟩) hb).trans hc
  have k0 := (Bk.new w 35 #[.string tl, .int .i64 kind, .slice dA dn dc, .slice vA vn vc]).cell 0
  simp only [List.getElem?_toArray, List.getElem?_cons_zero] at k0
  simp only [tgV]
  clear hc
  go_enter Tryz.func40, Tryz.ntmps40
  go_wp2
  go_ret
  exact ⟨ret_bool (str_dec tl lab), HB0.out⟩

set_option maxRecDepth 100000 in
set_option maxHeartbeats 1000000 in
theorem bds_any (A : Option Addr) (n c B b : Nat) (ts : List Tg) (lab : ByteArray) (w : World) (h0 : Sl w B 4 A n (flat tgC ts)) (hB : B ≤ w.heap.size) (hn : n ≤ 1000000) (hc : w.cell? ⟨b, 0, none⟩ = some (.string lab)) (hb : b < w.heap.size) :
    Calls Tryz.prog 24 #[.slice A n c, .func (.func 40) #[] #[.pointer (some ⟨b, 0, none⟩)]] w (InxEnd ts lab w) := by
  have HL := Lib.hid (h0.len tgC_len (by omega))
  have H0 := Lib.hid h0; have HC := Lib.hid hc
  clear h0 hc
  go_enter Tryz.func24, Tryz.ntmps24
  go_wp2
  go_loopw [8] (fun i wr => ∃ k : Nat, k ≤ n ∧ i = .int .i64 k ∧ Hid (findT (ts.take k) lab = none) ∧ Hid (Below w.heap.size w wr)) (fun i _ => n - (intOf i).toNat)
  case atStart => exact ⟨0, Nat.zero_le _, rfl, rfl, Below.refl _ _⟩
  case round =>
    obtain ⟨k, hk, rfl, hF, hBel⟩ := hrel
    by_cases hlt : k < n
    · obtain ⟨bb, off, t, rfl, hbB, ht, y0, y1, y2, y3⟩ := (H0.out.below hBel.out hB).tg hlt
      have hlz : (k : Int) < (n : Int) := by omega
      have hcr := (hBel.out.cell (p := ⟨b, 0, none⟩) hb).trans HC.out
      have HI := Lib.hid (bds1_any t lab b wr hcr (Nat.lt_of_lt_of_le hb hBel.out.size))
      have HT := Lib.hid ht
      clear ht hcr
      by_cases e : t.lab = lab
      · have HE := Lib.hid (findT_here hF.out HT.out e)
        have hd : decide (t.lab = lab) = true := by simp [e]
        rw [hd] at HI
        clear e hd
        obtain ⟨tl, kind, dA, dn, dc, deps, vA, vn, vc, vis⟩ := t
        simp only [tgV] at HI y0 y1 y2 y3
        go_wp2_with (go_at_call 40; refine HI.out.mono ?_; rintro e w1 ⟨rfl, hb1⟩)
        go_ret
        exact ⟨_, rfl, .inl ⟨k, _, rfl, HT.out, HE.out⟩, hBel.out.trans (hb1.mono hBel.out.size)⟩
      · have HE := Lib.hid (findT_pass hF.out HT.out e)
        have hd : decide (t.lab = lab) = false := by simp [e]
        rw [hd] at HI
        clear e hd
        obtain ⟨tl, kind, dA, dn, dc, deps, vA, vn, vc, vis⟩ := t
        simp only [tgV] at HI y0 y1 y2 y3
        go_wp2_with (go_at_call 40; refine HI.out.mono ?_; rintro e w1 ⟨rfl, hb1⟩)
        go_roundw
        case rel => exact ⟨k + 1, by omega, by go_num, HE.out, hBel.out.trans (hb1.mono hBel.out.size)⟩
        case measure => simp [intOf]; omega
    · have hlz : ¬ (k : Int) < (n : Int) := by omega
      have HN : Hid (findT ts lab = none) := by
        have h1 := hF.out
        rwa [List.take_of_length_le (by rw [HL.out]; omega)] at h1
      go_wp2
      go_ret
      exact ⟨_, rfl, .inr ⟨rfl, HN.out⟩, hBel.out⟩
end Go.Proofs.YtddlohbhchjjhaaGreatDoor

namespace Go.Proofs.YtddlohbhchjjhaaGreatDoor
open Go.RowKit Go.Maps

theorem LdR.sizes {fs : List Fl} {rs : List Tg} {wh : ByteArray} (h : LdR fs (rs.map ct) wh 0) : rs.length ≤ 100 ∧ (∀ t ∈ rs, t.deps.length ≤ 20) ∧ ((∀ f ∈ fs, f.1.size ≤ 500) → ∀ t ∈ rs, t.lab.size ≤ 600) := by
  obtain ⟨e0, ht, ⟨h0, _, _, h⟩ | ⟨h0, ⟨p, e, hg, _, _, h⟩ | ⟨ds, hg, ⟨_, _, _, h⟩ | ⟨hd, ss, hp, hs, ⟨k, c, _, _, h1, h2, _⟩ | ⟨hc, l, hr, ⟨_, _, _, _, _, h⟩ | ⟨rfl, h1, h2, _⟩⟩⟩⟩⟩⟩ := h
  · exact absurd h.symm h0
  · exact absurd h.symm (hg.bad_ne p e rfl)
  · cases h
  · exact absurd rfl h2
  · cases h
  · subst h0 h1
    have hok := hg.ok ht.asc.nodup ds rfl
    have hl := hp.length_eq
    rw [List.length_map] at hl
    exact ⟨by omega, fun t ht => hok.few (ct t) (hp.mem_iff.1 (List.mem_map_of_mem ht)), fun hf t ht => hok.size hf (ct t) (hp.mem_iff.1 (List.mem_map_of_mem ht))⟩
set_option maxRecDepth 100000 in
set_option maxHeartbeats 16000000 in
theorem lawLoads_any (A : Option Addr) (n c : Nat) (fs : List Fl) (w : World) (h0 : Sl w w.heap.size 2 A n (flat flC fs)) (hn : n ≤ maxLen) (hfs : ∀ f ∈ fs, f.1.size ≤ maxLen ∧ f.2.size ≤ maxLen) :
    Calls Tryz.prog 5 #[.slice A n c] w (LawEnd w) := by
  have H0 := Lib.hid h0
  have HGR := Lib.hid (great9_any A n c w.heap.size fs w h0 hn hfs)
  clear h0 hfs
  go_enter Tryz.func5, Tryz.ntmps5
  go_wp2_with fail
  refine HGR.out.mono ?_
  rintro e w1 ⟨r, rfl, hsm, rfl⟩
  cases r with
  | true =>
    clear hsm
    go_wp2_with fail
    refine (awake_any _).mono ?_
    rintro e wz ⟨rfl, hbz⟩
    have HBz := Lib.hid (hbz); clear hbz
    go_wp2_with fail
    go_ret
    exact ⟨rfl, HBz.out⟩

  | false =>
    obtain ⟨hn10, hsm⟩ := hsm rfl
    have HSM := Lib.hid hsm; clear hsm HGR
    have HLO := Lib.hid (load_any A n c w.heap.size fs w H0.out (Nat.le_refl _) (by omega) (fun f hf => by have := HSM.out f hf; omega))
    go_wp2_with fail
    refine HLO.out.mono ?_
    rintro e w2 ⟨A2, m, c2, rs, wh, err, rfl, hs, hx, hmc, hcm, hl, hb⟩
    have HL := Lib.hid hl
    have hml := hs.len tgC_len (by omega)
    have HB2 := Lib.hid hb; have HS2 := Lib.hid hs; have HX2 := Lib.hid hx
    obtain ⟨W3, hW3⟩ : ∃ W, w2.alloc (.cells #[.slice A2 m c2] 27) = W := ⟨_, rfl⟩
    have zb2 := hb.size
    have hb23 : Below w2.heap.size w2 W3 := by rw [← hW3]; exact (Below.refl _ w2).alloc (Nat.le_refl _) _
    have HB3 : Hid (Below w.heap.size w W3) := HB2.out.trans (hb23.mono zb2)
    have HG3 : Hid (Bk W3 w2.heap.size 27 #[.slice A2 m c2]) := by rw [← hW3]; exact Bk.new w2 _ _
    have HS3 := Lib.hid (HS2.out.below hb23 (Nat.le_refl _))
    have HX3 : Hid (∀ t ∈ rs, TgOk W3 w2.heap.size t) := fun t ht => (HX2.out t ht).below hb23 (Nat.le_refl _)
    have u0 := HG3.out.cell 0
    simp at u0
    have zg : w2.heap.size < W3.heap.size := HG3.out.lt
    clear hb23 hs hx hl hb HLO HS2 HX2
    by_cases he : err = 0
    case neg =>
      have he' : (err != 0) = true := by simpa using he
      have hr0 : rs = [] := by
        have := HL.out.none_ he
        simpa using this
      obtain rfl : m = 0 := by rw [hr0] at hml; exact hml.symm
      clear he hr0 hml
      go_wp2_with fail
      refine (awake_any _).mono ?_
      rintro e wz ⟨rfl, hbz⟩
      have HBz := Lib.hid (HB3.out.trans (hbz.mono HB3.out.size)); clear hbz
      go_wp2_with fail
      go_ret
      exact ⟨rfl, HBz.out⟩

    subst he
    obtain ⟨hwh, hld⟩ := HL.out.loaded
    subst hwh
    have HLD := Lib.hid hld
    obtain ⟨hm100, hdf, hlf⟩ := HL.out.sizes
    have HDF := Lib.hid hdf
    have HLF := Lib.hid (hlf (fun f hf => by have := HSM.out f hf; omega))
    have HML := Lib.hid hml
    have hm : m ≤ 100 := by omega
    clear hld hdf hlf HL hml
    go_wp2_with fail
    clear hW3
    go_loopw [32] (fun i wr => ∃ k : Nat, i = .int .i64 (k : Int) ∧ k ≤ m ∧ Hid (Below W3.heap.size W3 wr)) (fun i _ => m - (intOf i).toNat)
    case atStart => exact ⟨0, rfl, Nat.zero_le _, Below.refl _ _⟩
    case round =>
      obtain ⟨k, rfl, hk, hbw⟩ := hrel
      have zwr := hbw.out.size
      have HBw : Hid (Below w.heap.size w wr) := HB3.out.trans (hbw.out.mono HB3.out.size)
      by_cases hlt : k < m
      · have hlz : (k : Int) < (m : Int) := by omega
        obtain ⟨bb, off, t, rfl, hbB, ht, y0, y1, y2, y3⟩ := (HS3.out.below hbw.out (by omega)).tg hlt
        have HT := Lib.hid ht
        have HTM := Lib.hid (List.mem_of_getElem? ht)
        obtain ⟨wb, hwb⟩ : ∃ wb, wr.alloc (.cells #[.string t.lab, .int .i64 t.kind, .slice t.dA t.dn t.dc, .slice t.vA t.vn t.vc] 35) = wb := ⟨_, rfl⟩
        have HBb : Hid (Below wr.heap.size wr wb) := by rw [← hwb]; exact (Below.refl _ wr).alloc (Nat.le_refl _) _
        have HKb : Hid (Bk wb wr.heap.size 35 #[.string t.lab, .int .i64 t.kind, .slice t.dA t.dn t.dc, .slice t.vA t.vn t.vc]) := by rw [← hwb]; exact Bk.new wr _ _
        have zwb : wb.heap.size = wr.heap.size + 1 := by rw [← hwb]; simp
        have HB3b : Hid (Below W3.heap.size W3 wb) := hbw.out.trans (HBb.out.mono zwr)
        have HBwb : Hid (Below w.heap.size w wb) := HB3.out.trans (HB3b.out.mono HB3.out.size)
        have HTO : Hid (TgOk wb w2.heap.size t) := (HX3.out t HTM.out).below HB3b.out (by omega)
        have hdl := HTO.out.dlen
        have hdn : t.dn ≤ 20 := by have := HDF.out t HTM.out; omega
        have hls : t.lab.size ≤ 600 := HLF.out t HTM.out
        have HMO := Lib.hid (HLD.out.mod t HTM.out)
        have HDP := Lib.hid (HLD.out.dep t HTM.out)
        have x0 := HKb.out.cell 0; have x2 := HKb.out.cell 2
        simp at x0 x2
        have v0 := (HG3.out.below HB3b.out zg).cell 0
        simp at v0
        have HCF := Lib.hid (containsF_any A n c w.heap.size wr.heap.size fs t.lab wb (H0.out.below HBwb.out (Nat.le_refl _)) HBwb.out.size (by omega) x0 (by omega) (by omega) HMO.out)
        have HWb := Lib.hid hwb
        -- the label ahead
        have HNX : Hid (∀ j, k = j + 1 → ∃ p, Hid (Op.bytesLess p.toList t.lab.toList = true) ∧ wb.cell? ⟨bb, off + j * 4, none⟩ = some (.string p)) := by
          intro j hj
          obtain ⟨bb', off', p, hpe, hbB', hp, z0, _⟩ := (HS3.out.below HB3b.out (by omega)).tg (k := j) (by omega)
          cases hpe
          refine ⟨p.lab, (less_str _ _).trans ?_, z0⟩
          have h1 := List.getElem?_eq_some_iff.1 hp
          have h2 := List.getElem?_eq_some_iff.1 HT.out
          have := List.pairwise_iff_getElem.1 HLD.out.asc j k (by simpa using h1.1) (by simpa using h2.1) (by omega)
          simpa [h1.2, h2.2] using this
        clear hwb ht
        obtain ⟨lab, kind, dA, dn, dc, deps, vA, vn, vc, vis⟩ := t
        simp only at hdl hdn hls y0 y1 y2 y3 HWb HKb HT HTM HTO x0 x2 HMO HDP HCF HNX
        go_upto_region 9 with fail
        rw [HWb.out]
        go_cut [50] from 37 to 50 (fun f wx => f = .bool false ∧ Hid (Below wb.heap.size wb wx))
        case first =>
          cases k with
          | zero =>
            go_quiet (fail)
            simp only [Exit.then]
            go_step
            go_meet
            exact ⟨rfl, below_drewN (Below.refl _ _) _⟩
          | succ j =>
            obtain ⟨p, HP, z0⟩ := HNX.out j rfl
            have hkp : (0 : Int) < ((j + 1 : Nat) : Int) := by omega
            have hw1 : IntKind.i64.wrap (((j + 1 : Nat) : Int) - 1) = (j : Int) := by rw [wrap_sm (by omega) (by omega)]; omega
            have hj1 : ¬ (j : Int) < 0 := by omega
            have hj2 : (j : Int) < (m : Int) := by omega
            have hp := HP.out
            go_quiet (fail)
            simp only [Exit.then]
            go_step
            go_meet
            exact ⟨rfl, below_drewN (Below.refl _ _) _⟩
        case rest =>
          obtain ⟨rfl, HBc⟩ := hcut
          have HB3c : Hid (Below W3.heap.size W3 wc) := HB3b.out.trans (HBc.out.mono HB3b.out.size)
          have HBwc : Hid (Below w.heap.size w wc) := HB3.out.trans (HB3c.out.mono HB3.out.size)
          have zc := HBc.out.size
          have HKc := Lib.hid (HKb.out.below HBc.out HKb.out.lt)
          have e0 := HKc.out.cell 0; have e2 := HKc.out.cell 2
          simp at e0 e2
          have w0 := (HG3.out.below HB3c.out zg).cell 0
          simp at w0
          have HCF := Lib.hid (containsF_any A n c w.heap.size wr.heap.size fs lab wc (H0.out.below HBwc.out (Nat.le_refl _)) HBwc.out.size (by omega) e0 (by omega) (by omega) HMO.out)
          clear x0 x2 v0 y0 y1 y2 y3
          go_wp2_with fail
          refine HCF.out.mono ?_
          rintro e w5 ⟨rfl, hb5⟩
          have HB35 : Hid (Below W3.heap.size W3 w5) := HB3c.out.trans (hb5.mono HB3c.out.size)
          have HBw5 : Hid (Below w.heap.size w w5) := HB3.out.trans (HB35.out.mono HB3.out.size)
          have HK5 := Lib.hid (HKc.out.below hb5 HKc.out.lt)
          have HT5 : Hid (TgOk w5 w2.heap.size ⟨lab, kind, dA, dn, dc, deps, vA, vn, vc, vis⟩) := (HX3.out _ HTM.out).below HB35.out (by omega)
          have z5 : wr.heap.size < w5.heap.size := HK5.out.lt
          clear hb5 HCF e0 e2 w0
          have e0 := HK5.out.cell 0; have e2 := HK5.out.cell 2
          simp at e0 e2
          have w0 := (HG3.out.below HB35.out zg).cell 0
          simp at w0
          go_wp2_with fail
          obtain ⟨wo, hwo⟩ : ∃ wo, wo = wr := ⟨_, rfl⟩
          subst hwo
          go_loopw [58] (fun i wr => ∃ j : Nat, i = .int .i64 (j : Int) ∧ j ≤ dn ∧ Hid (Below w5.heap.size w5 wr)) (fun i _ => dn - (intOf i).toNat)
          case atStart => exact ⟨0, rfl, Nat.zero_le _, Below.refl _ _⟩
          case round =>
            obtain ⟨j, rfl, hj, hbr⟩ := hrel
            have zr := hbr.out.size
            have HB3r : Hid (Below W3.heap.size W3 wr) := HB35.out.trans (hbr.out.mono HB35.out.size)
            have HBwr : Hid (Below w.heap.size w wr) := HB3.out.trans (HB3r.out.mono HB3.out.size)
            by_cases hjl : j < dn
            · have hjz : (j : Int) < (dn : Int) := by omega
              obtain ⟨db, doff, d, hde, hdb, hd, q0⟩ := (HT5.out.below hbr.out (by omega)).d.str_at hjl
              simp only at hde
              subst hde
              obtain ⟨o, hfo, hok1, hvis⟩ := HDP.out d (List.mem_of_getElem? hd)
              obtain ⟨wd, hwd⟩ : ∃ wd, wr.alloc (.cells #[.string d] 9) = wd := ⟨_, rfl⟩
              have HBd : Hid (Below wr.heap.size wr wd) := by rw [← hwd]; exact (Below.refl _ wr).alloc (Nat.le_refl _) _
              have HKd : Hid (Bk wd wr.heap.size 9 #[.string d]) := by rw [← hwd]; exact Bk.new wr _ _
              have s0 := HKd.out.cell 0
              simp at s0
              have HB5d : Hid (Below w5.heap.size w5 wd) := hbr.out.trans (HBd.out.mono zr)
              have HB3d : Hid (Below W3.heap.size W3 wd) := HB35.out.trans (HB5d.out.mono HB35.out.size)
              have HIX := Lib.hid (lds_any (some ⟨bb, off, none⟩) m c2 w2.heap.size wr.heap.size rs d wd (HS3.out.below HB3d.out (by omega)) (by have := HB3d.out.size; omega) (by omega) s0 HKd.out.lt)
              have HFO := Lib.hid hfo; have HVI := Lib.hid hvis
              have v1 := (HG3.out.below HB3d.out zg).cell 0
              simp at v1
              have v1' := v1
              rw [← hwd] at v1'
              have HWd := Lib.hid hwd
              clear hwd hd hfo hvis s0
              go_wp2_with fail
              rw [HWd.out]
              refine HIX.out.mono ?_
              rintro e w6 ⟨z, rfl, hz, hb6⟩
              obtain ⟨ki, o', rfl, hki, hfo'⟩ : ∃ (ki : Nat) (o' : Tg), z = (ki : Int) ∧ rs[ki]? = some o' ∧ findT rs d = some o' := by
                rcases hz with h | ⟨_, h⟩
                · exact h
                · rw [HFO.out] at h; cases h
              obtain rfl : o' = o := by rw [HFO.out] at hfo'; exact (Option.some.inj hfo').symm
              have HB56 : Hid (Below w5.heap.size w5 w6) := HB5d.out.trans (hb6.mono HB5d.out.size)
              have HB36 : Hid (Below W3.heap.size W3 w6) := HB35.out.trans (HB56.out.mono HB35.out.size)
              have hkm : ki < m := by rw [← HML.out]; exact (List.getElem?_eq_some_iff.1 hki).1
              obtain ⟨bb', off', o2, hpe, hbB', ht2, y0, y1, y2, y3⟩ := (HS3.out.below HB36.out (by omega)).tg hkm
              cases hpe
              obtain rfl : o2 = o' := by rw [hki] at ht2; exact (Option.some.inj ht2).symm
              have HOM := Lib.hid (List.mem_of_getElem? hki)
              have HOO : Hid (TgOk w6 w2.heap.size o2) := (HX3.out o2 HOM.out).below HB36.out (by omega)
              have hols : o2.lab.size ≤ 1000000 := by have := HLF.out o2 HOM.out; omega
              have HVS : Hid (∀ W, Below w6.heap.size w6 W → Calls Tryz.prog 17 #[tgV o2, .string lab] W (VsbEnd true W)) := fun W hW => by
                have := visible_any o2 lab w2.heap.size W (HOO.out.below hW (by have := HB36.out.size; omega)) (by have := hW.size; have := HB36.out.size; omega) hols (by omega)
                rwa [HVI.out] at this
              have e0 := (HK5.out.below HB56.out z5).cell 0
              simp at e0
              have w0 := (HG3.out.below HB36.out zg).cell 0
              simp at w0
              have hk0 : ¬ (ki : Int) < 0 := by omega
              have hkz : (ki : Int) < (m : Int) := by omega
              have z56 := HB56.out.size
              have z36 := HB36.out.size
              clear hz hfo' ht2 hki hb6 HIX v1 v1' q0 e2
              obtain ⟨ol, okind, oA, on, oc, odeps, wA, wn, wc2, ovis⟩ := o2
              simp only [tgV] at y0 y1 y2 y3 HVS hok1
              subst hok1
              go_wp2_with fail
              refine wp_region_stableGD 21 (66 :: 67 :: 68 :: 69 :: 70 :: 71 :: 72 :: 73 :: 74 :: 75 :: 76 :: 77 :: 78 :: 79 :: 80 :: 81 :: 82 :: 83 :: 84 :: 85 :: 86 :: []) (by kernel_rfl) (by kernel_rfl) (by kernel_rfl) (fun W => Below w6.heap.size w6 W) (fun W W' => Below W.heap.size W W')
                (vPhi ((.int .i64 (ki : Int)) :: (.bool false) :: (.bool false) :: (.pointer (some ⟨w2.heap.size, 0, none⟩)) :: (.slice (some ⟨bb, off, none⟩) m c2) :: (.int .i64 (ki : Int)) :: (.pointer (some ⟨bb, off + ki * 4, none⟩)) :: (.pointer (some ⟨bb, off + ki * 4 + 1, none⟩)) :: (.int .i64 1) :: (.bool false) :: (.bool false) :: (.bool false) :: (.pointer (some ⟨w2.heap.size, 0, none⟩)) :: (.slice (some ⟨bb, off, none⟩) m c2) :: (.int .i64 (ki : Int)) :: (.pointer (some ⟨bb, off + ki * 4, none⟩)) :: (.agg #[.string ol, .int .i64 1, .slice oA on oc, .slice wA wn wc2]) :: (.pointer (some ⟨wo.heap.size, 0, none⟩)) :: (.string lab) :: (.bool true) :: (.bool false) :: [])) (fun W W' h1 h2 => h1.trans (h2.mono h1.size)) (fun i v W W' h _ => h) (Below.refl _ _).drew ?stepA ?tailA
              case stepA =>
                intro i o vs W hi ho hv hR hphi
                obtain ⟨v0, v1, v2, v3, v4, v5, v6, v7, v8, v9, v10, v11, v12, v13, v14, v15, v16, v17, v18, v19, v20, rfl⟩ := ls21 hv
                simp only [List.zip, List.zipWith, putAll, Act.put, List.setIfInBounds_toArray, List.set]
                have hWz := hR.size
                have g0 := (hR.cell (p := ⟨w2.heap.size, 0, none⟩) (by show w2.heap.size < _; omega)).trans w0
                have t0 := (hR.cell (p := ⟨wo.heap.size, 0, none⟩) (by show wo.heap.size < _; omega)).trans e0
                have o0 := (hR.cell (p := ⟨bb, off + ki * 4, none⟩) (by show bb < _; omega)).trans y0
                have o1 := (hR.cell (p := ⟨bb, off + ki * 4 + 1, none⟩) (by show bb < _; omega)).trans y1
                have o2 := (hR.cell (p := ⟨bb, off + ki * 4 + 2, none⟩) (by show bb < _; omega)).trans y2
                have o3 := (hR.cell (p := ⟨bb, off + ki * 4 + 3, none⟩) (by show bb < _; omega)).trans y3
                match i, hi, ho with
                | 0, _, rfl =>
                  exact .inl ⟨rfl, gives_value (v := .int .i64 (ki : Int)) (w' := W) (by go_simp) ⟨Below.refl _ _, fun u hu => by cases hu; rfl⟩⟩
                | 1, _, rfl =>
                  have e0 : v0 = _ := hphi ⟨0, .data⟩ (by simp) rfl v0 rfl _ rfl
                  subst e0
                  exact .inl ⟨rfl, gives_value (v := .bool false) (w' := W) (by go_simp) ⟨Below.refl _ _, fun u hu => by cases hu; rfl⟩⟩
                | 2, _, rfl =>
                  have e1 : v1 = _ := hphi ⟨1, .data⟩ (by simp) rfl v1 rfl _ rfl
                  subst e1
                  exact .inl ⟨rfl, gives_value (v := .bool false) (w' := W) (by go_simp) ⟨Below.refl _ _, fun u hu => by cases hu; rfl⟩⟩
                | 3, _, rfl =>
                  have e2 : v2 = _ := hphi ⟨2, .guard⟩ (by simp) rfl v2 rfl _ rfl
                  subst e2
                  exact .inl ⟨rfl, gives_value (v := .pointer (some ⟨w2.heap.size, 0, none⟩)) (w' := W) (by go_simp) ⟨Below.refl _ _, fun u hu => by cases hu; rfl⟩⟩
                | 4, _, rfl =>
                  have e3 : v3 = _ := hphi ⟨3, .data⟩ (by simp) rfl v3 rfl _ rfl
                  have e2 : v2 = _ := hphi ⟨2, .guard⟩ (by simp) rfl v2 rfl _ rfl
                  subst e2 e3
                  exact .inl ⟨rfl, gives_value (v := .slice (some ⟨bb, off, none⟩) m c2) (w' := W) (by go_simp) ⟨Below.refl _ _, fun u hu => by cases hu; rfl⟩⟩
                | 5, _, rfl =>
                  have e2 : v2 = _ := hphi ⟨2, .guard⟩ (by simp) rfl v2 rfl _ rfl
                  subst e2
                  exact .inl ⟨rfl, gives_value (v := .int .i64 (ki : Int)) (w' := W) (by go_simp) ⟨Below.refl _ _, fun u hu => by cases hu; rfl⟩⟩
                | 6, _, rfl =>
                  have e4 : v4 = _ := hphi ⟨4, .data⟩ (by simp) rfl v4 rfl _ rfl
                  have e5 : v5 = _ := hphi ⟨5, .data⟩ (by simp) rfl v5 rfl _ rfl
                  have e2 : v2 = _ := hphi ⟨2, .guard⟩ (by simp) rfl v2 rfl _ rfl
                  subst e2 e4 e5
                  exact .inl ⟨rfl, gives_value (v := .pointer (some ⟨bb, off + ki * 4, none⟩)) (w' := W) (by go_simp) ⟨Below.refl _ _, fun u hu => by cases hu; rfl⟩⟩
                | 7, _, rfl =>
                  have e6 : v6 = _ := hphi ⟨6, .data⟩ (by simp) rfl v6 rfl _ rfl
                  have e2 : v2 = _ := hphi ⟨2, .guard⟩ (by simp) rfl v2 rfl _ rfl
                  subst e2 e6
                  exact .inl ⟨rfl, gives_value (v := .pointer (some ⟨bb, off + ki * 4 + 1, none⟩)) (w' := W) (by go_simp) ⟨Below.refl _ _, fun u hu => by cases hu; rfl⟩⟩
                | 8, _, rfl =>
                  have e7 : v7 = _ := hphi ⟨7, .data⟩ (by simp) rfl v7 rfl _ rfl
                  have e2 : v2 = _ := hphi ⟨2, .guard⟩ (by simp) rfl v2 rfl _ rfl
                  subst e2 e7
                  exact .inl ⟨rfl, gives_value (v := .int .i64 1) (w' := W) (by go_simp) ⟨Below.refl _ _, fun u hu => by cases hu; rfl⟩⟩
                | 9, _, rfl =>
                  have e8 : v8 = _ := hphi ⟨8, .data⟩ (by simp) rfl v8 rfl _ rfl
                  have e2 : v2 = _ := hphi ⟨2, .guard⟩ (by simp) rfl v2 rfl _ rfl
                  subst e2 e8
                  exact .inl ⟨rfl, gives_value (v := .bool false) (w' := W) (by go_simp) ⟨Below.refl _ _, fun u hu => by cases hu; rfl⟩⟩
                | 10, _, rfl =>
                  have e2 : v2 = _ := hphi ⟨2, .data⟩ (by simp) rfl v2 rfl _ rfl
                  have e9 : v9 = _ := hphi ⟨9, .data⟩ (by simp) rfl v9 rfl _ rfl
                  subst e2 e9
                  exact .inl ⟨rfl, gives_value (v := .bool false) (w' := W) (by go_simp) ⟨Below.refl _ _, fun u hu => by cases hu; rfl⟩⟩
                | 11, _, rfl =>
                  have e10 : v10 = _ := hphi ⟨10, .data⟩ (by simp) rfl v10 rfl _ rfl
                  subst e10
                  exact .inl ⟨rfl, gives_value (v := .bool false) (w' := W) (by go_simp) ⟨Below.refl _ _, fun u hu => by cases hu; rfl⟩⟩
                | 12, _, rfl =>
                  have e11 : v11 = _ := hphi ⟨11, .guard⟩ (by simp) rfl v11 rfl _ rfl
                  subst e11
                  exact .inl ⟨rfl, gives_value (v := .pointer (some ⟨w2.heap.size, 0, none⟩)) (w' := W) (by go_simp) ⟨Below.refl _ _, fun u hu => by cases hu; rfl⟩⟩
                | 13, _, rfl =>
                  have e12 : v12 = _ := hphi ⟨12, .data⟩ (by simp) rfl v12 rfl _ rfl
                  have e11 : v11 = _ := hphi ⟨11, .guard⟩ (by simp) rfl v11 rfl _ rfl
                  subst e11 e12
                  exact .inl ⟨rfl, gives_value (v := .slice (some ⟨bb, off, none⟩) m c2) (w' := W) (by go_simp) ⟨Below.refl _ _, fun u hu => by cases hu; rfl⟩⟩
                | 14, _, rfl =>
                  have e11 : v11 = _ := hphi ⟨11, .guard⟩ (by simp) rfl v11 rfl _ rfl
                  subst e11
                  exact .inl ⟨rfl, gives_value (v := .int .i64 (ki : Int)) (w' := W) (by go_simp) ⟨Below.refl _ _, fun u hu => by cases hu; rfl⟩⟩
                | 15, _, rfl =>
                  have e13 : v13 = _ := hphi ⟨13, .data⟩ (by simp) rfl v13 rfl _ rfl
                  have e14 : v14 = _ := hphi ⟨14, .data⟩ (by simp) rfl v14 rfl _ rfl
                  have e11 : v11 = _ := hphi ⟨11, .guard⟩ (by simp) rfl v11 rfl _ rfl
                  subst e11 e13 e14
                  exact .inl ⟨rfl, gives_value (v := .pointer (some ⟨bb, off + ki * 4, none⟩)) (w' := W) (by go_simp) ⟨Below.refl _ _, fun u hu => by cases hu; rfl⟩⟩
                | 16, _, rfl =>
                  have e15 : v15 = _ := hphi ⟨15, .data⟩ (by simp) rfl v15 rfl _ rfl
                  have e11 : v11 = _ := hphi ⟨11, .guard⟩ (by simp) rfl v11 rfl _ rfl
                  subst e11 e15
                  exact .inl ⟨rfl, gives_value (v := .agg #[.string ol, .int .i64 1, .slice oA on oc, .slice wA wn wc2]) (w' := W) (by go_simp) ⟨Below.refl _ _, fun u hu => by cases hu; rfl⟩⟩
                | 17, _, rfl =>
                  have e11 : v11 = _ := hphi ⟨11, .guard⟩ (by simp) rfl v11 rfl _ rfl
                  subst e11
                  exact .inl ⟨rfl, gives_value (v := .pointer (some ⟨wo.heap.size, 0, none⟩)) (w' := W) (by go_simp) ⟨Below.refl _ _, fun u hu => by cases hu; rfl⟩⟩
                | 18, _, rfl =>
                  have e17 : v17 = _ := hphi ⟨17, .data⟩ (by simp) rfl v17 rfl _ rfl
                  have e11 : v11 = _ := hphi ⟨11, .guard⟩ (by simp) rfl v11 rfl _ rfl
                  subst e11 e17
                  exact .inl ⟨rfl, gives_value (v := .string lab) (w' := W) (by go_simp) ⟨Below.refl _ _, fun u hu => by cases hu; rfl⟩⟩
                | 19, _, rfl =>
                  have e16 : v16 = _ := hphi ⟨16, .data⟩ (by simp) rfl v16 rfl _ rfl
                  have e18 : v18 = _ := hphi ⟨18, .data⟩ (by simp) rfl v18 rfl _ rfl
                  have e11 : v11 = _ := hphi ⟨11, .guard⟩ (by simp) rfl v11 rfl _ rfl
                  subst e11 e16 e18
                  refine .inl ⟨rfl, gives_call (f := 17) (args := #[.agg #[.string ol, .int .i64 1, .slice oA on oc, .slice wA wn wc2], .string lab]) (by go_simp) ((HVS.out W hR).mono ?_)⟩
                  rintro e W' ⟨rfl, hb2⟩
                  exact ⟨_, rfl, hb2, fun u hu => by cases hu; rfl⟩
                | 20, _, rfl =>
                  have e19 : v19 = _ := hphi ⟨19, .data⟩ (by simp) rfl v19 rfl _ rfl
                  have e11 : v11 = _ := hphi ⟨11, .guard⟩ (by simp) rfl v11 rfl _ rfl
                  subst e11 e19
                  exact .inl ⟨rfl, gives_value (v := .bool false) (w' := W) (by go_simp) ⟨Below.refl _ _, fun u hu => by cases hu; rfl⟩⟩
                | i + 21, hi, _ => exact absurd hi (by omega)
              case tailA =>
                intro vs W hv hR hphi
                obtain ⟨v0, v1, v2, v3, v4, v5, v6, v7, v8, v9, v10, v11, v12, v13, v14, v15, v16, v17, v18, v19, v20, rfl⟩ := ls21 hv
                simp only [List.zip, List.zipWith, putAll, Act.put, List.setIfInBounds_toArray, List.set, List.drop]
                have e0 : v0 = _ := hphi 0 v0 rfl _ rfl
                have e1 : v1 = _ := hphi 1 v1 rfl _ rfl
                have e2 : v2 = _ := hphi 2 v2 rfl _ rfl
                have e3 : v3 = _ := hphi 3 v3 rfl _ rfl
                have e4 : v4 = _ := hphi 4 v4 rfl _ rfl
                have e5 : v5 = _ := hphi 5 v5 rfl _ rfl
                have e6 : v6 = _ := hphi 6 v6 rfl _ rfl
                have e7 : v7 = _ := hphi 7 v7 rfl _ rfl
                have e8 : v8 = _ := hphi 8 v8 rfl _ rfl
                have e9 : v9 = _ := hphi 9 v9 rfl _ rfl
                have e10 : v10 = _ := hphi 10 v10 rfl _ rfl
                have e11 : v11 = _ := hphi 11 v11 rfl _ rfl
                have e12 : v12 = _ := hphi 12 v12 rfl _ rfl
                have e13 : v13 = _ := hphi 13 v13 rfl _ rfl
                have e14 : v14 = _ := hphi 14 v14 rfl _ rfl
                have e15 : v15 = _ := hphi 15 v15 rfl _ rfl
                have e16 : v16 = _ := hphi 16 v16 rfl _ rfl
                have e17 : v17 = _ := hphi 17 v17 rfl _ rfl
                have e18 : v18 = _ := hphi 18 v18 rfl _ rfl
                have e19 : v19 = _ := hphi 19 v19 rfl _ rfl
                have e20 : v20 = _ := hphi 20 v20 rfl _ rfl
                subst e0 e1 e2 e3 e4 e5 e6 e7 e8 e9 e10 e11 e12 e13 e14 e15 e16 e17 e18 e19 e20
                clear hphi hv
                have HBz : Hid (Below w5.heap.size w5 W) := HB56.out.trans (hR.mono HB56.out.size)
                clear hR
                go_wp2_with fail
                go_roundw
                case rel => exact ⟨j + 1, by go_num, hjl, HBz.out⟩
                case measure => simp [intOf]; omega
            · have hjz : ¬ (j : Int) < (dn : Int) := by omega
              go_wp2_with fail
              go_roundw
              case rel => exact ⟨k + 1, by go_num, hlt, HB3r.out⟩
              case measure => simp [intOf]; omega
      · have hlz : ¬ (k : Int) < (m : Int) := by omega
        have hB2r : w2.heap.size ≤ wr.heap.size := by omega
        have HCY := Lib.hid (cycle_any A2 m c2 w2.heap.size 1000 rs wr (HS3.out.below hbw.out (by omega)) (fun t ht => (HX3.out t ht).below hbw.out (by omega)) hB2r (by omega) (fun t ht => by have := HDF.out t ht; omega) (by omega))
        have v1 := (HG3.out.below hbw.out zg).cell 0
        simp at v1
        go_wp2_with (go_at_call 20; refine HCY.out.mono ?_; rintro e w4 ⟨A4, m4, c4, l4, rfl, hs4, hc4, hb4⟩; refine halt_ ?_)
        refine unhalt ?_
        obtain rfl : l4 = [] := by
          rcases hc4 with ⟨h, _⟩ | ⟨s, _, _, _, _, _, h, _⟩
          · exact h
          · exact absurd h (HLD.out.free s)
        obtain rfl : m4 = 0 := by have := hs4.1; rw [strs_len] at this; simp at this; omega
        have HB4 : Hid (Below w.heap.size w w4) := HBw.out.trans (hb4.mono HBw.out.size)
        clear hs4 hc4 hb4 HCY v1
        go_wp2_with fail
        refine (awake_any _).mono ?_
        rintro e wz ⟨rfl, hbz⟩
        have HBz := Lib.hid (HB4.out.trans (hbz.mono HB4.out.size)); clear hbz
        go_wp2_with fail
        go_ret
        exact ⟨rfl, HBz.out⟩
end Go.Proofs.YtddlohbhchjjhaaGreatDoor
