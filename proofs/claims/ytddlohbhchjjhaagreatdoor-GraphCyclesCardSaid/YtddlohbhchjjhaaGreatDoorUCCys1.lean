/-
  Lemmas: slices.IndexFunc over targets with the statements' closures: the first target with a label. GraphInverse. GraphCycles.
-/
import Derived.Deep.QuietTactic
import Derived.BigQuiet
import Derived.IntWalk
import Derived.Test.YtddlohbhchjjhaaGreatDoorU13

namespace Go.Proofs.YtddlohbhchjjhaaGreatDoor
open Go.RowKit Go.Maps

theorem findT_app : ∀ (a b : List Tg) (s : ByteArray), findT (a ++ b) s = match findT a s with | some x => some x | none => findT b s
  | [], b, s => by simp [findT]
  | r :: a, b, s => by
    simp only [List.cons_append, findT]
    by_cases e : r.lab = s
    · simp [e]
    · rw [if_neg e, if_neg e, findT_app a b s]
theorem findT_here {ts : List Tg} {s : ByteArray} {k : Nat} {t : Tg} (h : findT (ts.take k) s = none) (ht : ts[k]? = some t) (hs : t.lab = s) : findT ts s = some t := by
  have hk := List.getElem?_eq_some_iff.1 ht
  have e : ts = ts.take k ++ t :: ts.drop (k + 1) := by
    rw [← hk.2, List.getElem_cons_drop, List.take_append_drop]
  rw [e, findT_app, h]
  simp [findT, hs]
theorem findT_pass {ts : List Tg} {s : ByteArray} {k : Nat} {t : Tg} (h : findT (ts.take k) s = none) (ht : ts[k]? = some t) (hs : t.lab ≠ s) : findT (ts.take (k + 1)) s = none := by
  rw [take_snoc ht, findT_snoc, h]; simp [hs]
/-- what IndexFunc answers -/
def InxEnd (ts : List Tg) (lab : ByteArray) (w : World) (e : Ending) (w' : World) : Prop :=
  ∃ z : Int, e = .returned (.int .i64 z) ∧ ((∃ (k : Nat) (t : Tg), z = (k : Int) ∧ ts[k]? = some t ∧ findT ts lab = some t) ∨ (z = -1 ∧ findT ts lab = none)) ∧ Below w.heap.size w w'

set_option maxHeartbeats 400000 in
theorem cys1_any (t : Tg) (lab : ByteArray) (b : Nat) (w : World) (hc : w.cell? ⟨b, 0, none⟩ = some (.string lab)) (hb : b < w.heap.size) :
    Calls Tryz.prog 30 #[tgV t, .pointer (some ⟨b, 0, none⟩)] w fun e w' => e = .returned (.bool (decide (t.lab = lab))) ∧ Below w.heap.size w w' := by
  obtain ⟨tl, kind, dA, dn, dc, deps, vA, vn, vc, vis⟩ := t
  have HB0 : Hid (Below w.heap.size w (w.alloc (.cells #[.string tl, .int .i64 kind, .slice dA dn dc, .slice vA vn vc] 35))) := (Below.refl _ w).alloc (Nat.le_refl _) _
  have c0 := (HB0.out.cell (p := ⟨b, 0, none⟩) hb).trans hc
  have k0 := (Bk.new w 35 #[.string tl, .int .i64 kind, .slice dA dn dc, .slice vA vn vc]).cell 0
  simp only [List.getElem?_toArray, List.getElem?_cons_zero] at k0
  simp only [tgV]
  clear hc
  go_enter Tryz.func30, Tryz.ntmps30
  go_wp2
  go_ret
  exact ⟨ret_bool (str_dec tl lab), HB0.out⟩

set_option maxRecDepth 100000 in
set_option maxHeartbeats 1000000 in
theorem cys_any (A : Option Addr) (n c B b : Nat) (ts : List Tg) (lab : ByteArray) (w : World) (h0 : Sl w B 4 A n (flat tgC ts)) (hB : B ≤ w.heap.size) (hn : n ≤ 1000000) (hc : w.cell? ⟨b, 0, none⟩ = some (.string lab)) (hb : b < w.heap.size) :
    Calls Tryz.prog 24 #[.slice A n c, .func (.func 30) #[] #[.pointer (some ⟨b, 0, none⟩)]] w (InxEnd ts lab w) := by
  have HL := Lib.hid (h0.len tgC_len (by omega))
  have H0 := Lib.hid h0; have HC := Lib.hid hc
  clear h0 hc
  go_enter Tryz.func24, Tryz.ntmps24
  go_wp2
  go_loopw [8] (fun i wr => ∃ k : Nat, k ≤ n ∧ i = .int .i64 k ∧ Hid (findT (ts.take k) lab = none) ∧ Hid (Below w.heap.size w wr)) (fun i _ => n - (intOf i).toNat)
  case atStart => exact ⟨0, Nat.zero_le _, rfl, rfl, Below.refl _ _⟩
  case round =>
    obtain ⟨k, hk, rfl, hF, hBel⟩ := hrel
    by_cases hlt : k < n
    · obtain ⟨bb, off, t, rfl, hbB, ht, y0, y1, y2, y3⟩ := (H0.out.below hBel.out hB).tg hlt
      have hlz : (k : Int) < (n : Int) := by omega
      have hcr := (hBel.out.cell (p := ⟨b, 0, none⟩) hb).trans HC.out
      have HI := Lib.hid (cys1_any t lab b wr hcr (Nat.lt_of_lt_of_le hb hBel.out.size))
      have HT := Lib.hid ht
      clear ht hcr
      by_cases e : t.lab = lab
      · have HE := Lib.hid (findT_here hF.out HT.out e)
        have hd : decide (t.lab = lab) = true := by simp [e]
        rw [hd] at HI
        clear e hd
        obtain ⟨tl, kind, dA, dn, dc, deps, vA, vn, vc, vis⟩ := t
        simp only [tgV] at HI y0 y1 y2 y3
        go_wp2_with (go_at_call 30; refine HI.out.mono ?_; rintro e w1 ⟨rfl, hb1⟩)
        go_ret
        exact ⟨_, rfl, .inl ⟨k, _, rfl, HT.out, HE.out⟩, hBel.out.trans (hb1.mono hBel.out.size)⟩
      · have HE := Lib.hid (findT_pass hF.out HT.out e)
        have hd : decide (t.lab = lab) = false := by simp [e]
        rw [hd] at HI
        clear e hd
        obtain ⟨tl, kind, dA, dn, dc, deps, vA, vn, vc, vis⟩ := t
        simp only [tgV] at HI y0 y1 y2 y3
        go_wp2_with (go_at_call 30; refine HI.out.mono ?_; rintro e w1 ⟨rfl, hb1⟩)
        go_roundw
        case rel => exact ⟨k + 1, by omega, by go_num, HE.out, hBel.out.trans (hb1.mono hBel.out.size)⟩
        case measure => simp [intOf]; omega
    · have hlz : ¬ (k : Int) < (n : Int) := by omega
      have HN : Hid (findT ts lab = none) := by
        have h1 := hF.out
        rwa [List.take_of_length_le (by rw [HL.out]; omega)] at h1
      go_wp2
      go_ret
      exact ⟨_, rfl, .inr ⟨rfl, HN.out⟩, hBel.out⟩

set_option maxHeartbeats 400000 in
theorem lds1_any (t : Tg) (lab : ByteArray) (b : Nat) (w : World) (hc : w.cell? ⟨b, 0, none⟩ = some (.string lab)) (hb : b < w.heap.size) :
    Calls Tryz.prog 25 #[tgV t, .pointer (some ⟨b, 0, none⟩)] w fun e w' => e = .returned (.bool (decide (t.lab = lab))) ∧ Below w.heap.size w w' := by
  obtain ⟨tl, kind, dA, dn, dc, deps, vA, vn, vc, vis⟩ := t
  have HB0 : Hid (Below w.heap.size w (w.alloc (.cells #[.string tl, .int .i64 kind, .slice dA dn dc, .slice vA vn vc] 35))) := (Below.refl _ w).alloc (Nat.le_refl _) _
  have c0 := (HB0.out.cell (p := ⟨b, 0, none⟩) hb).trans hc
  have k0 := (Bk.new w 35 #[.string tl, .int .i64 kind, .slice dA dn dc, .slice vA vn vc]).cell 0
  simp only [List.getElem?_toArray, List.getElem?_cons_zero] at k0
  simp only [tgV]
  clear hc
  go_enter Tryz.func25, Tryz.ntmps25
  go_wp2
  go_ret
  exact ⟨ret_bool (str_dec tl lab), HB0.out⟩

set_option maxRecDepth 100000 in
set_option maxHeartbeats 1000000 in
theorem lds_any (A : Option Addr) (n c B b : Nat) (ts : List Tg) (lab : ByteArray) (w : World) (h0 : Sl w B 4 A n (flat tgC ts)) (hB : B ≤ w.heap.size) (hn : n ≤ 1000000) (hc : w.cell? ⟨b, 0, none⟩ = some (.string lab)) (hb : b < w.heap.size) :
    Calls Tryz.prog 24 #[.slice A n c, .func (.func 25) #[] #[.pointer (some ⟨b, 0, none⟩)]] w (InxEnd ts lab w) := by
  have HL := Lib.hid (h0.len tgC_len (by omega))
  have H0 := Lib.hid h0; have HC := Lib.hid hc
  clear h0 hc
  go_enter Tryz.func24, Tryz.ntmps24
  go_wp2
  go_loopw [8] (fun i wr => ∃ k : Nat, k ≤ n ∧ i = .int .i64 k ∧ Hid (findT (ts.take k) lab = none) ∧ Hid (Below w.heap.size w wr)) (fun i _ => n - (intOf i).toNat)
  case atStart => exact ⟨0, Nat.zero_le _, rfl, rfl, Below.refl _ _⟩
  case round =>
    obtain ⟨k, hk, rfl, hF, hBel⟩ := hrel
    by_cases hlt : k < n
    · obtain ⟨bb, off, t, rfl, hbB, ht, y0, y1, y2, y3⟩ := (H0.out.below hBel.out hB).tg hlt
      have hlz : (k : Int) < (n : Int) := by omega
      have hcr := (hBel.out.cell (p := ⟨b, 0, none⟩) hb).trans HC.out
      have HI := Lib.hid (lds1_any t lab b wr hcr (Nat.lt_of_lt_of_le hb hBel.out.size))
      have HT := Lib.hid ht
      clear ht hcr
      by_cases e : t.lab = lab
      · have HE := Lib.hid (findT_here hF.out HT.out e)
        have hd : decide (t.lab = lab) = true := by simp [e]
        rw [hd] at HI
        clear e hd
        obtain ⟨tl, kind, dA, dn, dc, deps, vA, vn, vc, vis⟩ := t
        simp only [tgV] at HI y0 y1 y2 y3
        go_wp2_with (go_at_call 25; refine HI.out.mono ?_; rintro e w1 ⟨rfl, hb1⟩)
        go_ret
        exact ⟨_, rfl, .inl ⟨k, _, rfl, HT.out, HE.out⟩, hBel.out.trans (hb1.mono hBel.out.size)⟩
      · have HE := Lib.hid (findT_pass hF.out HT.out e)
        have hd : decide (t.lab = lab) = false := by simp [e]
        rw [hd] at HI
        clear e hd
        obtain ⟨tl, kind, dA, dn, dc, deps, vA, vn, vc, vis⟩ := t
        simp only [tgV] at HI y0 y1 y2 y3
        go_wp2_with (go_at_call 25; refine HI.out.mono ?_; rintro e w1 ⟨rfl, hb1⟩)
        go_roundw
        case rel => exact ⟨k + 1, by omega, by go_num, HE.out, hBel.out.trans (hb1.mono hBel.out.size)⟩
        case measure => simp [intOf]; omega
    · have hlz : ¬ (k : Int) < (n : Int) := by omega
      have HN : Hid (findT ts lab = none) := by
        have h1 := hF.out
        rwa [List.take_of_length_le (by rw [HL.out]; omega)] at h1
      go_wp2
      go_ret
      exact ⟨_, rfl, .inr ⟨rfl, HN.out⟩, hBel.out⟩

set_option maxHeartbeats 400000 in
theorem bds1_any (t : Tg) (lab : ByteArray) (b : Nat) (w : World) (hc : w.cell? ⟨b, 0, none⟩ = some (.string lab)) (hb : b < w.heap.size) :
    Calls Tryz.prog 40 #[tgV t, .pointer (some ⟨b, 0, none⟩)] w fun e w' => e = .returned (.bool (decide (t.lab = lab))) ∧ Below w.heap.size w w' := by
  obtain ⟨tl, kind, dA, dn, dc, deps, vA, vn, vc, vis⟩ := t
  have HB0 : Hid (Below w.heap.size w (w.alloc (.cells #[.string tl, .int .i64 kind, .slice dA dn dc, .slice vA vn vc] 35))) := (Below.refl _ w).alloc (Nat.le_refl _) _
  have c0 := (HB0.out.cell (p := ⟨b, 0, none⟩) hb).trans hc
  have k0 := (Bk.new w 35 #[.string tl, .int .i64 kind, .slice dA dn dc, .slice vA vn vc]).cell 0
  simp only [List.getElem?_toArray, List.getElem?_cons_zero] at k0
  simp only [tgV]
  clear hc
  go_enter Tryz.func40, Tryz.ntmps40
  go_wp2
  go_ret
  exact ⟨ret_bool (str_dec tl lab), HB0.out⟩

set_option maxRecDepth 100000 in
set_option maxHeartbeats 1000000 in
theorem bds_any (A : Option Addr) (n c B b : Nat) (ts : List Tg) (lab : ByteArray) (w : World) (h0 : Sl w B 4 A n (flat tgC ts)) (hB : B ≤ w.heap.size) (hn : n ≤ 1000000) (hc : w.cell? ⟨b, 0, none⟩ = some (.string lab)) (hb : b < w.heap.size) :
    Calls Tryz.prog 24 #[.slice A n c, .func (.func 40) #[] #[.pointer (some ⟨b, 0, none⟩)]] w (InxEnd ts lab w) := by
  have HL := Lib.hid (h0.len tgC_len (by omega))
  have H0 := Lib.hid h0; have HC := Lib.hid hc
  clear h0 hc
  go_enter Tryz.func24, Tryz.ntmps24
  go_wp2
  go_loopw [8] (fun i wr => ∃ k : Nat, k ≤ n ∧ i = .int .i64 k ∧ Hid (findT (ts.take k) lab = none) ∧ Hid (Below w.heap.size w wr)) (fun i _ => n - (intOf i).toNat)
  case atStart => exact ⟨0, Nat.zero_le _, rfl, rfl, Below.refl _ _⟩
  case round =>
    obtain ⟨k, hk, rfl, hF, hBel⟩ := hrel
    by_cases hlt : k < n
    · obtain ⟨bb, off, t, rfl, hbB, ht, y0, y1, y2, y3⟩ := (H0.out.below hBel.out hB).tg hlt
      have hlz : (k : Int) < (n : Int) := by omega
      have hcr := (hBel.out.cell (p := ⟨b, 0, none⟩) hb).trans HC.out
      have HI := Lib.hid (bds1_any t lab b wr hcr (Nat.lt_of_lt_of_le hb hBel.out.size))
      have HT := Lib.hid ht
      clear ht hcr
      by_cases e : t.lab = lab
      · have HE := Lib.hid (findT_here hF.out HT.out e)
        have hd : decide (t.lab = lab) = true := by simp [e]
        rw [hd] at HI
        clear e hd
        obtain ⟨tl, kind, dA, dn, dc, deps, vA, vn, vc, vis⟩ := t
        simp only [tgV] at HI y0 y1 y2 y3
        go_wp2_with (go_at_call 40; refine HI.out.mono ?_; rintro e w1 ⟨rfl, hb1⟩)
        go_ret
        exact ⟨_, rfl, .inl ⟨k, _, rfl, HT.out, HE.out⟩, hBel.out.trans (hb1.mono hBel.out.size)⟩
      · have HE := Lib.hid (findT_pass hF.out HT.out e)
        have hd : decide (t.lab = lab) = false := by simp [e]
        rw [hd] at HI
        clear e hd
        obtain ⟨tl, kind, dA, dn, dc, deps, vA, vn, vc, vis⟩ := t
        simp only [tgV] at HI y0 y1 y2 y3
        go_wp2_with (go_at_call 40; refine HI.out.mono ?_; rintro e w1 ⟨rfl, hb1⟩)
        go_roundw
        case rel => exact ⟨k + 1, by omega, by go_num, HE.out, hBel.out.trans (hb1.mono hBel.out.size)⟩
        case measure => simp [intOf]; omega
    · have hlz : ¬ (k : Int) < (n : Int) := by omega
      have HN : Hid (findT ts lab = none) := by
        have h1 := hF.out
        rwa [List.take_of_length_le (by rw [HL.out]; omega)] at h1
      go_wp2
      go_ret
      exact ⟨_, rfl, .inr ⟨rfl, HN.out⟩, hBel.out⟩
end Go.Proofs.YtddlohbhchjjhaaGreatDoor

namespace Go.Proofs.YtddlohbhchjjhaaGreatDoor
open Go.RowKit Go.Maps

theorem memB_congr {l m : List ByteArray} {x y : ByteArray} (h : x ∈ l ↔ y ∈ m) : memB l x = memB m y := by
  rw [Bool.eq_iff_iff, memB_iff, memB_iff]; exact h
theorem FndR.ok {ts : List Tg} {lab : ByteArray} {l : List ByteArray} {err : Int} (hv : Vld ts) (ht : isT ts lab = true) (h : FndR ts lab l err) : err = 0 ∧ ∀ x, x ∈ l ↔ Rch (nxT ts) lab x := by
  rcases h with ⟨h, _⟩ | ⟨_, h, _⟩ | ⟨_, _, h1, _, h2⟩
  · exact absurd hv h
  · rw [ht] at h; cases h
  · exact ⟨h1, h2⟩
theorem UsrR.ok {ts : List Tg} {lab : ByteArray} {l : List ByteArray} {err : Int} (hv : Vld ts) (ht : isT ts lab = true) (h : UsrR ts lab l err) : err = 0 ∧ ∀ x, x ∈ l ↔ Rch (nxT ts) x lab := by
  rcases h with ⟨h, _⟩ | ⟨_, h, _⟩ | ⟨_, _, h1, _, h2⟩
  · exact absurd hv h
  · rw [ht] at h; cases h
  · exact ⟨h1, h2⟩
theorem has_any (A : Option Addr) (n c B : Nat) (l : List ByteArray) (x : ByteArray) (w : World) (h : Sl w B 1 A n (strs l)) (hn : n ≤ maxLen) :
    Calls Tryz.prog 31 #[.slice A n c, .string x] w fun e w' => e = .returned (.bool (memB l x)) ∧ w = w' := by
  have hl : l.length = n := by have := h.1; rw [strs_len] at this; omega
  have := contains_any A n n c B l x w h (Nat.le_refl _) hn
  rwa [List.take_of_length_le (by omega)] at this
set_option maxRecDepth 100000 in
set_option maxHeartbeats 16000000 in
theorem lawInv_any (A : Option Addr) (n c : Nat) (ts : List Tg) (w : World) (h0 : Sl w w.heap.size 4 A n (flat tgC ts)) (hok : ∀ t ∈ ts, TgOk w w.heap.size t) (hnc : n ≤ c) (hcm : c ≤ maxLen) :
    Calls Tryz.prog 9 #[.agg #[.slice A n c]] w (LawEnd w) := by
  have H0 := Lib.hid h0; have HOK := Lib.hid hok
  have HTL := Lib.hid (h0.len tgC_len (by omega))
  clear h0 hok
  have hnm : n ≤ 9223372036854775807 := by unfold maxLen at hcm; omega
  obtain ⟨w0, hW0⟩ : ∃ W0, w.alloc (.cells #[.slice A n c] 27) = W0 := ⟨_, rfl⟩
  have HB0 : Hid (Below w.heap.size w w0) := by rw [← hW0]; exact (Below.refl _ w).alloc (Nat.le_refl _) _
  have HG0 : Hid (Bk w0 w.heap.size 27 #[.slice A n c]) := by rw [← hW0]; exact Bk.new w _ _
  have u0 := HG0.out.cell 0
  simp at u0
  have HGR := Lib.hid (rgreatS_any A n c w.heap.size ts w0 (H0.out.below HB0.out (Nat.le_refl _)) (fun t ht => (HOK.out t ht).below HB0.out (Nat.le_refl _)) hnc hcm)
  go_enter Tryz.func9, Tryz.ntmps9
  go_wp2_with fail
  refine HGR.out.mono ?_
  rintro e w1 ⟨r, rfl, hsm, rfl⟩
  cases r with
  | true =>
    clear hsm
    go_wp2_with fail
    refine (awake_any _).mono ?_
    rintro e wz ⟨rfl, hbz⟩
    have HBz := Lib.hid (HB0.out.trans (hbz.mono HB0.out.size)); clear hbz
    go_wp2_with fail
    go_ret
    exact ⟨rfl, HBz.out⟩

  | false =>
    obtain ⟨hn12, hsm⟩ := hsm rfl
    clear hsm HGR hW0
    have HV := Lib.hid (rvalid_any A n c w.heap.size ts w0 (H0.out.below HB0.out (Nat.le_refl _)) (fun t ht => (HOK.out t ht).below HB0.out (Nat.le_refl _)) HB0.out.size hnc hcm)
    go_wp2_with fail
    refine HV.out.mono ?_
    rintro e w2 ⟨r, rfl, hr, hb⟩
    have HB2 : Hid (Below w.heap.size w w2) := HB0.out.trans (hb.mono HB0.out.size)
    have HG2 := Lib.hid (HG0.out.below hb HG0.out.lt)
    clear hb u0 HV HB0 HG0
    have u0 := HG2.out.cell 0
    simp at u0
    cases r with
    | false =>
      clear hr
      go_wp2_with fail
      refine (awake_any _).mono ?_
      rintro e wz ⟨rfl, hbz⟩
      have HBz := Lib.hid (HB2.out.trans (hbz.mono HB2.out.size)); clear hbz
      go_wp2_with fail
      go_ret
      exact ⟨rfl, HBz.out⟩

    | true =>
    have HVL := Lib.hid (hr.1 rfl)
    have HIT : Hid (∀ t ∈ ts, isT ts t.lab = true) := fun t ht => (isT_iff ts _).2 (List.mem_map_of_mem ht)
    have HFN : Hid (∀ W, Below w.heap.size w W → ∀ lab, lab.size ≤ maxLen → Calls Tryz.prog 29 #[.agg #[.slice A n c], .string lab] W (FndEnd ts lab W)) := fun W hW lab hl => deps_any A n c w.heap.size ts lab W (H0.out.below hW (Nat.le_refl _)) (fun t ht => (HOK.out t ht).below hW (Nat.le_refl _)) hW.size hnc hcm hl
    have HUS : Hid (∀ W, Below w.heap.size w W → ∀ lab, lab.size ≤ maxLen → Calls Tryz.prog 35 #[.agg #[.slice A n c], .string lab] W (UsrEnd ts lab W)) := fun W hW lab hl => users_any A n c w.heap.size ts lab W (H0.out.below hW (Nat.le_refl _)) (fun t ht => (HOK.out t ht).below hW (Nat.le_refl _)) hW.size hnc hcm hl
    clear hr
    go_wp2_with fail
    go_loopw [27] (fun i wr => ∃ k : Nat, i = .int .i64 (k : Int) ∧ k ≤ n ∧ Hid (Below w2.heap.size w2 wr)) (fun i _ => n - (intOf i).toNat)
    case atStart => exact ⟨0, rfl, Nat.zero_le _, Below.refl _ _⟩
    case round =>
      obtain ⟨k, rfl, hk, hbw⟩ := hrel
      have zwr := hbw.out.size
      have HBw : Hid (Below w.heap.size w wr) := HB2.out.trans (hbw.out.mono HB2.out.size)
      by_cases hlt : k < n
      · have hlz : (k : Int) < (n : Int) := by omega
        obtain ⟨bb, off, a, rfl, hbB, ht, y0, y1, y2, y3⟩ := (H0.out.below HBw.out (Nat.le_refl _)).tg hlt
        have HTA := Lib.hid (List.mem_of_getElem? ht)
        have hals : a.lab.size ≤ maxLen := (HOK.out a HTA.out).ls
        have HIA := Lib.hid (HIT.out a HTA.out)
        clear ht hbB
        obtain ⟨w3, hw3⟩ : ∃ wb, wr.alloc (.cells #[.string a.lab, .int .i64 a.kind, .slice a.dA a.dn a.dc, .slice a.vA a.vn a.vc] 35) = wb := ⟨_, rfl⟩
        have HB3 : Hid (Below wr.heap.size wr w3) := by rw [← hw3]; exact (Below.refl _ wr).alloc (Nat.le_refl _) _
        have HK3 : Hid (Bk w3 wr.heap.size 35 #[.string a.lab, .int .i64 a.kind, .slice a.dA a.dn a.dc, .slice a.vA a.vn a.vc]) := by rw [← hw3]; exact Bk.new wr _ _
        have z3 : w3.heap.size = wr.heap.size + 1 := by rw [← hw3]; simp
        have HW3 := Lib.hid hw3
        have x0 := HK3.out.cell 0
        simp at x0
        rw [← hw3] at x0
        clear hw3

        have HB23 : Hid (Below w2.heap.size w2 w3) := hbw.out.trans (HB3.out.mono zwr)
        have HBw3 : Hid (Below w.heap.size w w3) := HB2.out.trans (HB23.out.mono HB2.out.size)
        have HDA := Lib.hid (HFN.out w3 HBw3.out a.lab hals)
        have v0 := (HG2.out.below HB23.out HG2.out.lt).cell 0
        simp at v0
        have v0' := v0
        rw [← HW3.out] at v0'
        obtain ⟨la, ka, dA, dn, dc, deps, vA, vn, vc, vis⟩ := a
        simp only at hals y0 y1 y2 y3 HW3 HK3 HTA HIA HDA x0 v0'
        go_wp2_with fail
        rw [HW3.out]
        refine HDA.out.mono ?_
        rintro e w4 ⟨A4, m4, c4, l4, e4, rfl, hs, hm, hc, hb, hr⟩
        obtain ⟨rfl, hrx⟩ := hr.ok HVL.out HIA.out
        have HRA := Lib.hid hrx
        have HB24 : Hid (Below w2.heap.size w2 w4) := HB23.out.trans (hb.mono (by omega))
        have HBw4 : Hid (Below w.heap.size w w4) := HB2.out.trans (HB24.out.mono HB2.out.size)
        have HKA := Lib.hid (HK3.out.below hb HK3.out.lt)
        have HS4 := Lib.hid hs; have HM4 := Lib.hid (Nat.le_trans hm hc)
        have HNA : Hid (memB l4 la = false) := by
          show _ = _
          rw [Bool.eq_false_iff]
          intro hh
          exact HVL.out.free la ((HRA.out la).1 ((memB_iff _ _).1 hh))
        have HCA : Hid (Calls Tryz.prog 31 #[.slice A4 m4 c4, .string la] w4 fun e w' => e = .returned (.bool false) ∧ w4 = w') := by
          have := has_any A4 m4 c4 w4.heap.size l4 la w4 HS4.out HM4.out
          rw [HNA.out] at this; exact this
        clear hs hm hc hb hr hrx HDA x0 v0 v0' y0 y1 y2 y3
        have x0 := HKA.out.cell 0
        simp at x0
        have v0 := (HG2.out.below HB24.out HG2.out.lt).cell 0
        simp at v0
        have hHKl : wr.heap.size < w4.heap.size := HKA.out.lt
        go_wp2_with fail
        refine HCA.out.mono ?_
        rintro e w' ⟨rfl, rfl⟩
        clear HCA x0
        go_wp2_with fail
        obtain ⟨wo, hwo⟩ : ∃ wo, wo = wr := ⟨_, rfl⟩
        subst hwo
        go_loopw [49] (fun i wr => ∃ j : Nat, i = .int .i64 (j : Int) ∧ j ≤ n ∧ Hid (Below w4.heap.size w4 wr)) (fun i _ => n - (intOf i).toNat)
        case atStart => exact ⟨0, rfl, Nat.zero_le _, Below.refl _ _⟩
        case round =>
          obtain ⟨j, rfl, hj, hbr⟩ := hrel
          have zr := hbr.out.size
          have HBr : Hid (Below w.heap.size w wr) := HBw4.out.trans (hbr.out.mono HBw4.out.size)
          by_cases hjt : j < n
          · have hjz : (j : Int) < (n : Int) := by omega
            obtain ⟨b2, off2, b, hbe, hbB, ht, y0, y1, y2, y3⟩ := (H0.out.below HBr.out (Nat.le_refl _)).tg hjt
            cases hbe
            have HTB := Lib.hid (List.mem_of_getElem? ht)
            have hbls : b.lab.size ≤ maxLen := (HOK.out b HTB.out).ls
            have HIB := Lib.hid (HIT.out b HTB.out)
            clear ht hbB
            obtain ⟨w5, hw5⟩ : ∃ wb, wr.alloc (.cells #[.string b.lab, .int .i64 b.kind, .slice b.dA b.dn b.dc, .slice b.vA b.vn b.vc] 35) = wb := ⟨_, rfl⟩
            have HB5 : Hid (Below wr.heap.size wr w5) := by rw [← hw5]; exact (Below.refl _ wr).alloc (Nat.le_refl _) _
            have HK5 : Hid (Bk w5 wr.heap.size 35 #[.string b.lab, .int .i64 b.kind, .slice b.dA b.dn b.dc, .slice b.vA b.vn b.vc]) := by rw [← hw5]; exact Bk.new wr _ _
            have z5 : w5.heap.size = wr.heap.size + 1 := by rw [← hw5]; simp
            have HW5 := Lib.hid hw5
            have x0 := HK5.out.cell 0
            simp at x0
            rw [← hw5] at x0
            clear hw5

            have HB45 : Hid (Below w4.heap.size w4 w5) := hbr.out.trans (HB5.out.mono zr)
            have HBw5 : Hid (Below w.heap.size w w5) := HBw4.out.trans (HB45.out.mono HBw4.out.size)
            have HUB := Lib.hid (HUS.out w5 HBw5.out b.lab hbls)
            have v1 := ((HG2.out.below HB24.out HG2.out.lt).below HB45.out (by have := HG2.out.lt; have := HB24.out.size; omega)).cell 0
            simp at v1
            have v1' := v1
            rw [← HW5.out] at v1'
            obtain ⟨lb, kb, bdA, bdn, bdc, bdeps, bvA, bvn, bvc, bvis⟩ := b
            simp only at hbls y0 y1 y2 y3 HW5 HK5 HTB HIB HUB x0 v1'
            go_wp2_with fail
            rw [HW5.out]
            refine HUB.out.mono ?_
            rintro e w6 ⟨A6, m6, c6, l6, e6, rfl, hs, hm, hc, hb, hr⟩
            obtain ⟨rfl, hrx⟩ := hr.ok HVL.out HIB.out
            have HRB := Lib.hid hrx
            have HB46 : Hid (Below w4.heap.size w4 w6) := HB45.out.trans (hb.mono (by omega))
            have HBw6 : Hid (Below w.heap.size w w6) := HBw4.out.trans (HB46.out.mono HBw4.out.size)
            have HKB := Lib.hid (HK5.out.below hb HK5.out.lt)
            have HKA6 := Lib.hid (HKA.out.below HB46.out HKA.out.lt)
            have HS46 := Lib.hid (HS4.out.below HB46.out (Nat.le_refl _))
            have HS6 := Lib.hid hs; have HM6 := Lib.hid (Nat.le_trans hm hc)
            have HEQ : Hid (memB l4 lb = memB l6 la) := memB_congr ((HRA.out lb).trans (HRB.out la).symm)
            have HC1 : Hid (∀ q, Calls Tryz.prog 31 #[.slice A4 m4 c4, .string lb] (w6.drewN q) fun e w' => e = .returned (.bool (memB l4 lb)) ∧ w' = w6.drewN q) := fun q => (has_any A4 m4 c4 w4.heap.size l4 lb (w6.drewN q) (HS46.out.drewN q) HM4.out).mono fun e w' h => ⟨h.1, h.2.symm⟩
            have HC2 : Hid (∀ q, Calls Tryz.prog 31 #[.slice A6 m6 c6, .string la] (w6.drewN q) fun e w' => e = .returned (.bool (memB l4 lb)) ∧ w' = w6.drewN q) := fun q => (has_any A6 m6 c6 w6.heap.size l6 la (w6.drewN q) (HS6.out.drewN q) HM6.out).mono fun e w' h => ⟨h.1.trans (by rw [HEQ.out]), h.2.symm⟩
            have HMI : Hid (memB l4 lb = true → Rch (nxT ts) la lb) := fun h => (HRA.out lb).1 ((memB_iff _ _).1 h)
            clear hs hm hc hb hr hrx HUB x0 v1 v1' y0 y1 y2 y3 HEQ
            have x0 := HKA6.out.cell 0; have x1 := HKB.out.cell 0
            simp at x0 x1
            have v1 := ((HG2.out.below HB24.out HG2.out.lt).below HB46.out (by have := HG2.out.lt; have := HB24.out.size; omega)).cell 0
            simp at v1
            have hKBl : wr.heap.size < w6.heap.size := HKB.out.lt
            generalize memB l4 lb = mb at HC1 HC2 HMI
            have hmb : (mb != mb) = false := by cases mb <;> rfl
            go_wp2_with fail
            go_quiet (first | (go_at_call 31; first | exact Calls.quiet_of_same (HC1.out _) | exact Calls.quiet_of_same (HC2.out _)))
            obtain ⟨w7, hw7⟩ : ∃ w7, w6.drewN nq = w7 := ⟨_, rfl⟩
            have HB67 : Hid (Below w6.heap.size w6 w7) := by rw [← hw7]; exact below_drewN (Below.refl _ _) _
            have HC3 : Hid (Calls Tryz.prog 31 #[.slice A4 m4 c4, .string lb] w7 fun e w' => e = .returned (.bool mb) ∧ w' = w7) := by rw [← hw7]; exact HC1.out nq
            have z67 := HB67.out.size
            rw [hw7]
            clear hw7 HC1 HC2 x0 v1
            have x2 := (HKB.out.below HB67.out HKB.out.lt).cell 0
            simp at x2
            have HB47 : Hid (Below w4.heap.size w4 w7) := HB46.out.trans (HB67.out.mono HB46.out.size)
            go_wp2_with fail
            refine HC3.out.mono ?_
            rintro e w' ⟨rfl, rfl⟩
            obtain ⟨w7, hww⟩ : ∃ W, W = w' := ⟨_, rfl⟩
            subst hww
            clear HC3
            cases mb with
            | false =>
              go_wp2_with fail
              go_roundw
              case rel => exact ⟨j + 1, by go_num, hjt, HB47.out⟩
              case measure => simp [intOf]; omega
            | true =>
              have HBw7 : Hid (Below w.heap.size w w7) := HBw4.out.trans (HB47.out.mono HBw4.out.size)
              have HDB := Lib.hid (HFN.out w7 HBw7.out lb hbls)
              have v1 := ((HG2.out.below HB24.out HG2.out.lt).below HB47.out (by have := HG2.out.lt; have := HB24.out.size; omega)).cell 0
              simp at v1
              go_wp2_with fail
              refine HDB.out.mono ?_
              rintro e w8 ⟨A8, m8, c8, l8, e8, rfl, hs, hm, hc, hb, hr⟩
              obtain ⟨rfl, hrx⟩ := hr.ok HVL.out HIB.out
              have HB48 : Hid (Below w4.heap.size w4 w8) := HB47.out.trans (hb.mono (by have := HB47.out.size; omega))
              have HS8 := Lib.hid hs
              have HIN : Hid (∀ d ∈ l8, memB l4 d = true) := fun d hd => (memB_iff _ _).2 ((HRA.out d).2 ((HMI.out (by first | trivial | rfl)).trans' ((hrx d).1 hd)))
              have HC4 : Hid (∀ d, Calls Tryz.prog 31 #[.slice A4 m4 c4, .string d] w8 fun e w' => e = .returned (.bool (memB l4 d)) ∧ w8 = w') := fun d => has_any A4 m4 c4 w4.heap.size l4 d w8 (HS4.out.below HB48.out (Nat.le_refl _)) HM4.out
              have hm8 : m8 ≤ 9223372036854775807 := by have := Nat.le_trans hm hc; unfold maxLen at this; exact this
              clear hs hm hc hb hr hrx HDB v1 x2
              go_wp2_with fail
              obtain ⟨wo2, hwo⟩ : ∃ wo, wo = wr := ⟨_, rfl⟩
              subst hwo
              go_loopw [87] (fun i wr => ∃ p : Nat, i = .int .i64 (p : Int) ∧ p ≤ m8 ∧ wr = w8) (fun i _ => m8 - (intOf i).toNat)
              case atStart => exact ⟨0, rfl, Nat.zero_le _, rfl⟩
              case round =>
                obtain ⟨p, rfl, hp, rfl⟩ := hrel
                by_cases hpl : p < m8
                · obtain ⟨db, doff, d, hde, hdb, hd, q0⟩ := HS8.out.str_at hpl
                  subst hde
                  have hpz : (p : Int) < (m8 : Int) := by omega
                  have HID := HC4.out d
                  rw [HIN.out d (List.mem_of_getElem? hd)] at HID
                  have HID := Lib.hid HID
                  clear hd
                  go_wp2_with fail
                  refine HID.out.mono ?_
                  rintro e w9 ⟨rfl, rfl⟩
                  go_wp2_with fail
                  go_roundw
                  case rel => exact ⟨p + 1, by go_num, hpl, by first | trivial | rfl⟩
                  case measure => simp [intOf]; omega
                · have hpz : ¬ (p : Int) < (m8 : Int) := by omega
                  go_wp2_with fail
                  go_roundw
                  case rel => exact ⟨j + 1, by go_num, hjt, HB48.out⟩
                  case measure => simp [intOf]; omega
          · have hjz : ¬ (j : Int) < (n : Int) := by omega
            go_wp2_with fail
            go_roundw
            case rel => exact ⟨k + 1, by go_num, hlt, HB24.out.trans (hbr.out.mono HB24.out.size)⟩
            case measure => simp [intOf]; omega
      · have hlz : ¬ (k : Int) < (n : Int) := by omega
        go_wp2_with fail
        refine (awake_any _).mono ?_
        rintro e wz ⟨rfl, hbz⟩
        have HBz := Lib.hid (HBw.out.trans (hbz.mono HBw.out.size)); clear hbz
        go_wp2_with fail
        go_ret
        exact ⟨rfl, HBz.out⟩
end Go.Proofs.YtddlohbhchjjhaaGreatDoor

namespace Go.Proofs.YtddlohbhchjjhaaGreatDoor
open Go.RowKit Go.Maps

set_option maxRecDepth 100000 in
set_option maxHeartbeats 16000000 in
theorem lawCycles_any (A : Option Addr) (n c : Nat) (ts : List Tg) (w : World) (h0 : Sl w w.heap.size 4 A n (flat tgC ts)) (hok : ∀ t ∈ ts, TgOk w w.heap.size t) (hnc : n ≤ c) (hcm : c ≤ maxLen) :
    Calls Tryz.prog 7 #[.slice A n c] w (LawEnd w) := by
  have H0 := Lib.hid h0; have HOK := Lib.hid hok
  have HTL := Lib.hid (h0.len tgC_len (by omega))
  clear h0 hok
  have HGR := Lib.hid (rgreatS_any A n c w.heap.size ts w H0.out HOK.out hnc hcm)
  have hnm : n ≤ 9223372036854775807 := by unfold maxLen at hcm; omega
  go_enter Tryz.func7, Tryz.ntmps7
  go_wp2_with fail
  refine HGR.out.mono ?_
  rintro e w1 ⟨r, rfl, hsm, rfl⟩
  cases r with
  | true =>
    clear hsm
    go_wp2_with fail
    refine (awake_any _).mono ?_
    rintro e wz ⟨rfl, hbz⟩
    have HBz := Lib.hid (hbz); clear hbz
    go_wp2_with fail
    go_ret
    exact ⟨rfl, HBz.out⟩

  | false =>
    obtain ⟨hn12, hsm⟩ := hsm rfl
    have HSM := Lib.hid hsm; clear hsm HGR
    have HDM : Hid (∀ t ∈ ts, t.deps.length ≤ 1000) := fun t ht => by have := (HSM.out t ht).dn; omega
    have HC1 := Lib.hid (cycle_any2 A n c w.heap.size 1000 ts w H0.out HOK.out (Nat.le_refl _) (by omega) HDM.out (by omega))
    go_wp2_with fail
    refine HC1.out.mono ?_
    rintro e w2 ⟨A2, m2, c2, l, rfl, hs, hr, hmc2, hb⟩
    have HB2 := Lib.hid hb
    have HS2 := Lib.hid hs
    have hrg := hr.toR.ring
    have HRG := Lib.hid hrg
    have hml : l.length = m2 := by have := hs.1; rw [strs_len] at this; omega
    have HML := Lib.hid hml
    have hmm : m2 ≤ 12 := by
      have h1 : l.Nodup := by
        refine List.pairwise_iff_getElem.2 fun i j hi hj hij e => ?_
        have h2 := (hrg j l[j] (List.getElem?_eq_getElem hj)).2.1
        exact h2 (by rw [← e]; exact List.mem_take_iff_getElem.2 ⟨i, by omega, rfl⟩)
      have h2 := nodup_len l (ts.map Tg.lab) h1 fun x hx => by
        obtain ⟨j, hj, e⟩ := List.getElem_of_mem hx
        exact (isT_iff ts x).1 (hrg j x (by rw [← e]; exact List.getElem?_eq_getElem hj)).1
      rw [List.length_map] at h2
      have := HTL.out
      omega
    clear hs hr hb hrg HC1
    go_wp2_with fail
    go_loopw [14] (fun i wr => ∃ k : Nat, i = .int .i64 (k : Int) ∧ k ≤ m2 ∧ Hid (Below w2.heap.size w2 wr)) (fun i _ => m2 - (intOf i).toNat)
    case atStart => exact ⟨0, rfl, Nat.zero_le _, Below.refl _ _⟩
    case round =>
      obtain ⟨i, rfl, hi, hbw⟩ := hrel
      have zwr := hbw.out.size
      have HBw : Hid (Below w.heap.size w wr) := HB2.out.trans (hbw.out.mono HB2.out.size)
      by_cases hlt : i < m2
      · have hlz : (i : Int) < (m2 : Int) := by omega
        obtain ⟨cb, co, s, rfl, hcb, hls, q0⟩ := (HS2.out.below hbw.out (Nat.le_refl _)).str_at hlt
        obtain ⟨hist, hnin, hless, y, hy, hyn⟩ := HRG.out i s hls
        rw [HML.out] at hy
        have hmod : (i + 1) % m2 < m2 := Nat.mod_lt _ (by omega)
        obtain ⟨cb', co', f, hcf, hcb', hlf, q1⟩ := HS2.out.str_at (k := 0) (by omega)
        cases hcf
        obtain ⟨cb', co', y', hcf, hcb', hly, q2⟩ := HS2.out.str_at hmod
        cases hcf
        obtain rfl : y' = y := by rw [hly] at hy; exact Option.some.inj hy
        have hlsf := hless f hlf
        obtain ⟨t, hft⟩ := Option.isSome_iff_exists.1 (show (findT ts s).isSome = true from hist)
        obtain ⟨htl, htm⟩ := findT_lab hft
        have hyd : y' ∈ t.deps := by
          unfold nxT at hyn; rw [hft] at hyn; exact (List.mem_filter.1 hyn).1
        obtain ⟨wb, hwb⟩ : ∃ wb, wr.alloc (.cells #[.string s] 9) = wb := ⟨_, rfl⟩
        have HBb : Hid (Below wr.heap.size wr wb) := by rw [← hwb]; exact (Below.refl _ wr).alloc (Nat.le_refl _) _
        have HKb : Hid (Bk wb wr.heap.size 9 #[.string s]) := by rw [← hwb]; exact Bk.new wr _ _
        have x0 := HKb.out.cell 0
        simp at x0
        have HB2b : Hid (Below w2.heap.size w2 wb) := hbw.out.trans (HBb.out.mono zwr)
        have HBwb : Hid (Below w.heap.size w wb) := HB2.out.trans (HB2b.out.mono HB2.out.size)
        have HIX := Lib.hid (cys_any A n c w.heap.size wr.heap.size ts s wb (H0.out.below HBwb.out (Nat.le_refl _)) HBwb.out.size (by omega) x0 HKb.out.lt)
        have HFT := Lib.hid hft; have HTM := Lib.hid htm
        have HYD := Lib.hid ((memB_iff t.deps y').2 hyd)
        have HNI : Hid (memB (l.take i) s = false) := by
          show _ = _
          rw [Bool.eq_false_iff]
          intro hh; exact hnin ((memB_iff _ _).1 hh)
        have HQ1 := Lib.hid q1; have HQ2 := Lib.hid q2
        have HLS : Hid (Op.bytesLess s.toList f.toList = false) := (less_str s f).trans hlsf
        have HWb := Lib.hid hwb
        clear hwb hist hnin hless hy hyn hlf hly hlsf htl hyd hft htm x0 q1 q2 hls
        go_wp2_with fail
        rw [HWb.out]
        refine HIX.out.mono ?_
        rintro e w5 ⟨z, rfl, hz, hb5⟩
        obtain ⟨k, t', rfl, hkt, hft'⟩ : ∃ (k : Nat) (t' : Tg), z = (k : Int) ∧ ts[k]? = some t' ∧ findT ts s = some t' := by
          rcases hz with h | ⟨_, h⟩
          · exact h
          · rw [HFT.out] at h; cases h
        obtain rfl : t' = t := by rw [HFT.out] at hft'; exact (Option.some.inj hft').symm
        have HB25 : Hid (Below w2.heap.size w2 w5) := HB2b.out.trans (hb5.mono HB2b.out.size)
        have HBw5 : Hid (Below w.heap.size w w5) := HB2.out.trans (HB25.out.mono HB2.out.size)
        have hkn : k < n := by rw [← HTL.out]; exact (List.getElem?_eq_some_iff.1 hkt).1
        obtain ⟨bb, off, t2, rfl, hbB, ht2, y0, y1, y2, y3⟩ := (H0.out.below HBw5.out (Nat.le_refl _)).tg hkn
        obtain rfl : t2 = t' := by rw [hkt] at ht2; exact (Option.some.inj ht2).symm
        have HTO : Hid (TgOk w5 w.heap.size t2) := (HOK.out t2 HTM.out).below HBw5.out (Nat.le_refl _)
        have x0 := (HKb.out.below hb5 HKb.out.lt).cell 0
        simp at x0
        have q1 := (HB25.out.cell (p := ⟨cb, co + 0, none⟩) (by show cb < _; omega)).trans HQ1.out
        have q2 := (HB25.out.cell (p := ⟨cb, co + (i + 1) % m2, none⟩) (by show cb < _; omega)).trans HQ2.out
        simp only [Nat.add_zero] at q1
        have hk0 : ¬ (k : Int) < 0 := by omega
        have hkz : (k : Int) < (n : Int) := by omega
        have hmz : (0 : Int) < (m2 : Int) := by omega
        have hmz2 : 0 < m2 := by omega
        have hmz3 : ¬ (m2 : Int) ≤ 0 := by omega
        have hmz4 : ((m2 : Int) == 0) = false := by rw [beq_eq_false_iff_ne]; omega
        have hmz5 : ¬ (m2 : Int) = 0 := by omega
        have hmz6 : ¬ m2 = 0 := by omega
        have hiz : 0 ≤ (i : Int) := by omega
        have hls := HLS.out
        have hsl : ∀ w' : World, (Instr.sliceAt 33 (.slice (some ⟨cb, co, none⟩) m2 c2) none (some (.int .i64 i)) none).run Tryz.prog w' = .ok (.slice (some ⟨cb, co, none⟩) i c2) w' := fun w' => by
          obtain ⟨i0, hi0, _⟩ := info_parts infoStr'
          exact run_slice_to 33 i0 Tryz.underlying33 hi0 _ m2 c2 i (by omega) w'
        have HC2 : Hid (∀ q, Calls Tryz.prog 31 #[.slice (some ⟨cb, co, none⟩) i c2, .string s] (w5.drewN q) fun e w' => e = .returned (.bool false) ∧ w' = w5.drewN q) := fun q => by
          have := contains_any (some ⟨cb, co, none⟩) m2 i c2 w2.heap.size l s (w5.drewN q) ((HS2.out.below HB25.out (Nat.le_refl _)).drewN q) (by omega) (by omega)
          rw [HNI.out] at this
          exact this.mono fun e w' h => ⟨h.1, h.2.symm⟩
        have HC3 : Hid (∀ q, Calls Tryz.prog 31 #[.slice t2.dA t2.dn t2.dc, .string y'] (w5.drewN q) fun e w' => e = .returned (.bool true) ∧ w' = w5.drewN q) := fun q => by
          have := has_any t2.dA t2.dn t2.dc w.heap.size t2.deps y' (w5.drewN q) (HTO.out.d.drewN q) (Nat.le_trans HTO.out.dle HTO.out.dmax)
          rw [HYD.out] at this
          exact this.mono fun e w' h => ⟨h.1, h.2.symm⟩
        obtain ⟨r, hr⟩ : ∃ r, (i + 1) % m2 = r := ⟨_, rfl⟩
        have hrm : Int.tmod ((i : Int) + 1) (m2 : Int) = (r : Int) := by rw [← hr, Int.tmod_eq_emod_of_nonneg (by omega)]; push_cast; rfl
        rw [hr] at q2 hmod
        have hm3 : (r : Int) < (m2 : Int) := by omega
        have hm4 : ¬ (r : Int) < 0 := by omega
        have hwi : IntKind.i64.wrap ((i : Int) + 1) = (i : Int) + 1 := wrap_sm (by omega) (by omega)
        have hwm : IntKind.i64.wrap (r : Int) = (r : Int) := wrap_sm (by omega) (by omega)
        clear hr
        clear hz hft' hkt ht2 hb5
        go_wp2_with fail
        go_quiet (first | (go_at_call 31; first | exact Calls.quiet_of_same (HC2.out _) | exact Calls.quiet_of_same (HC3.out _)))
        go_wp2_with fail
        go_roundw
        case rel => exact ⟨i + 1, by go_num, hlt, below_drewN HB25.out _⟩
        case measure => simp [intOf]; omega
      · have hlz : ¬ (i : Int) < (m2 : Int) := by omega
        go_wp2_with fail
        refine (awake_any _).mono ?_
        rintro e wz ⟨rfl, hbz⟩
        have HBz := Lib.hid (HBw.out.trans (hbz.mono HBw.out.size)); clear hbz
        go_wp2_with fail
        go_ret
        exact ⟨rfl, HBz.out⟩
end Go.Proofs.YtddlohbhchjjhaaGreatDoor
