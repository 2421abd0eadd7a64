/-
  Lemmas: The reference's valid and Valid. The reference's Deps. The reference's users and Users. The reference's Affected.
-/
import Derived.BigQuiet
import Derived.Deep.RegionHeld3
import Derived.Deep.CutRange
import Derived.Test.YtddlohbhchjjhaaGreatDoorU10

namespace Go.Proofs.YtddlohbhchjjhaaGreatDoor
open Go.RowKit Go.Maps

theorem nodup_take_step {l : List ByteArray} {k : Nat} {x : ByteArray} (h : (l.take k).Nodup) (hx : l[k]? = some x) (hm : memB (l.take k) x = false) : (l.take (k + 1)).Nodup := by
  rw [take_snoc hx, List.nodup_append]
  refine ⟨h, by simp, fun a ha b hb => ?_⟩
  rintro rfl
  rw [List.mem_singleton.1 hb] at ha
  rw [(memB_iff _ _).2 ha] at hm; cases hm
theorem not_nodup {l : List ByteArray} {k : Nat} {x : ByteArray} (hx : l[k]? = some x) (hm : memB (l.take k) x = true) : ¬ l.Nodup := fun h => by
  have h1 : (l.take (k + 1)).Nodup := h.sublist (List.take_sublist _ _)
  rw [take_snoc hx, List.nodup_append] at h1
  exact h1.2.2 x ((memB_iff _ _).1 hm) x (by simp) rfl
def DifEnd (l : List ByteArray) (w : World) (e : Ending) (w' : World) : Prop := ∃ r : Bool, e = .returned (.bool r) ∧ (r = true ↔ l.Nodup ∧ l.length ≤ 20) ∧ Below w.heap.size w w'
set_option maxRecDepth 100000 in
set_option maxHeartbeats 2000000 in
theorem rdifferent_any (A : Option Addr) (n c B : Nat) (l : List ByteArray) (w : World) (h : Sl w B 1 A n (strs l)) (hB : B ≤ w.heap.size) (hn : n ≤ c) (hc : c ≤ maxLen) :
    Calls Tryz.prog 109 #[.slice A n c] w (DifEnd l w) := by
  have hnm : n ≤ 9223372036854775807 := by unfold maxLen at hc; omega
  have H := Lib.hid h
  have HLL : Hid (l.length = n) := by have := h.1; rw [strs_len] at this; show _ = _; omega
  clear h
  go_enter Tryz.func109, Tryz.ntmps109
  go_wp2
  go_loopw [3] (fun i wr => ∃ k : Nat, k ≤ n ∧ i = .int .i64 k ∧ Hid (Below w.heap.size w wr) ∧ Hid ((l.take k).Nodup)) (fun i _ => n - (intOf i).toNat)
  case atStart => exact ⟨0, Nat.zero_le _, rfl, Below.refl _ _, by simp [Hid]⟩
  case round =>
    obtain ⟨k, hk, rfl, hBel, hN⟩ := hrel
    by_cases hlt : k < n
    · obtain ⟨b, off, x, rfl, hb, hx, y0⟩ := (H.out.below hBel.out hB).str_at hlt
      have hlz : (k : Int) < (n : Int) := by omega
      have HX := Lib.hid hx
      clear hx
      have hsl : ∀ w' : World, (Instr.sliceAt 33 (.slice (some ⟨b, off, none⟩) n c) none (some (.int .i64 k)) none).run Tryz.prog w' = .ok (.slice (some ⟨b, off, none⟩) k c) w' := fun w' => by
        obtain ⟨i0, hi0, _⟩ := info_parts infoStr3
        exact run_slice_to 33 i0 Tryz.underlying33 hi0 _ n c k (by omega) w'
      have HSL : Hid (∀ q : Nat, Calls Tryz.prog 73 #[.slice (some ⟨b, off, none⟩) k c, .string x] (wr.drewN q) fun e w' => e = .returned (.bool (memB (l.take k) x)) ∧ w' = wr.drewN q) :=
        fun q => (rhas_any (some ⟨b, off, none⟩) k n c B l x (wr.drewN q) ((H.out.below hBel.out hB).drewN q) hk hnm).mono (fun e w' h => ⟨h.1, h.2.symm⟩)
      cases hm : memB (l.take k) x with
      | true =>
        have hF := Lib.hid (not_nodup HX.out hm)
        rw [hm] at HSL
        clear hm
        go_wp2_with fail
        go_quiet (first | (go_at_call 73; exact Calls.quiet_of_same (HSL.out _)))
        go_wp2
        go_ret
        exact ⟨false, rfl, ⟨(fun e => by cases e), fun e => absurd e.1 hF.out⟩, below_drewN hBel.out _⟩
      | false =>
        have hF := Lib.hid (nodup_take_step hN.out HX.out hm)
        rw [hm] at HSL
        clear hm
        go_wp2_with fail
        go_quiet (first | (go_at_call 73; exact Calls.quiet_of_same (HSL.out _)))
        go_wp2
        go_roundw
        case rel => exact ⟨k + 1, hlt, by go_num, below_drewN hBel.out _, hF.out⟩
        case measure => simp [intOf]; omega
    · have hlz : ¬ (k : Int) < (n : Int) := by omega
      have hF : Hid (l.Nodup) := by have h1 := hN.out; rwa [List.take_of_length_le (by rw [HLL.out]; omega)] at h1
      by_cases h20 : n ≤ 20
      · have hz : (n : Int) ≤ 20 := by omega
        go_wp2
        go_ret
        exact ⟨true, rfl, ⟨fun _ => ⟨hF.out, by rw [HLL.out]; exact h20⟩, fun _ => rfl⟩, hBel.out⟩
      · have hz : ¬ (n : Int) ≤ 20 := by omega
        go_wp2
        go_ret
        exact ⟨false, rfl, ⟨(fun e => by cases e), fun e => absurd e.2 (by rw [HLL.out]; exact h20)⟩, hBel.out⟩
def RvdEnd (ts : List Tg) (t : Tg) (w : World) (e : Ending) (w' : World) : Prop := ∃ r : Bool, e = .returned (.bool r) ∧ (r = true ↔ TOk ts t) ∧ Below w.heap.size w w'
theorem RvdEnd.no {ts : List Tg} {t : Tg} {w w' : World} (h : ¬ TOk ts t) (hb : Below w.heap.size w w') : RvdEnd ts t w (.returned (.bool false)) w' := ⟨false, rfl, ⟨(fun e => by cases e), fun e => absurd e h⟩, hb⟩
set_option maxRecDepth 100000 in
set_option maxHeartbeats 8000000 in
theorem rvalid1_any (A : Option Addr) (n c B : Nat) (ts : List Tg) (t : Tg) (w : World) (h0 : Sl w B 4 A n (flat tgC ts)) (hok : TgOk w B t) (hB : B ≤ w.heap.size) (hn : n ≤ 1000) :
    Calls Tryz.prog 71 #[.agg #[.slice A n c], tgV t] w (RvdEnd ts t w) := by
  have HTL := Lib.hid (h0.len tgC_len (by omega))
  have H0 := Lib.hid h0; have HTO := Lib.hid hok
  clear h0 hok
  have hls : t.lab.size ≤ maxLen := HTO.out.ls
  have hdl : t.deps.length = t.dn := HTO.out.dlen
  have hdnm : t.dn ≤ 9223372036854775807 := by have h1 := HTO.out.dle; have h2 := HTO.out.dmax; unfold maxLen at h2; omega
  obtain ⟨tl, kind, dA, dn, dc, deps, vA, vn, vc, vis⟩ := t
  simp only at hdl hdnm hls
  have HDL := Lib.hid hdl; have HLS := Lib.hid hls
  clear hdl hls
  unfold tgV
  obtain ⟨W0, hW0⟩ : ∃ W0, (w.alloc (.cells #[.slice A n c] 27)).alloc (.cells #[.string tl, .int .i64 kind, .slice dA dn dc, .slice vA vn vc] 35) = W0 := ⟨_, rfl⟩
  have HB0 : Hid (Below w.heap.size w W0) := by rw [← hW0]; exact ((Below.refl _ w).alloc (Nat.le_refl _) _).alloc (by simp) _
  have zW0 : W0.heap.size = w.heap.size + 2 := by rw [← hW0]; simp
  have HG : Hid (Bk W0 w.heap.size 27 #[.slice A n c]) := by rw [← hW0]; exact (Bk.new w _ _).alloc _
  have HT : Hid (Bk W0 (w.heap.size + 1) 35 #[.string tl, .int .i64 kind, .slice dA dn dc, .slice vA vn vc]) := by
    rw [← hW0]
    have := Bk.new (w.alloc (.cells #[.slice A n c] 27)) 35 #[.string tl, .int .i64 kind, .slice dA dn dc, .slice vA vn vc]
    rw [World.size_alloc] at this
    exact this
  have g0 := HG.out.cell 0
  have x0 := HT.out.cell 0; have x1 := HT.out.cell 1; have x2 := HT.out.cell 2; have x3 := HT.out.cell 3
  simp at g0 x0 x1 x2 x3
  have HDF := Lib.hid (rdifferent_any dA dn dc B deps W0 (HTO.out.d.below HB0.out hB) (by omega) HTO.out.dle HTO.out.dmax)
  have HRL := Lib.hid (rlabel_any tl W0 HLS.out)
  go_enter Tryz.func71, Tryz.ntmps71
  cases hlab : labB tl with
  | false =>
    rw [hlab] at HRL
    have hF : Hid (¬ TOk ts ⟨tl, kind, dA, dn, dc, deps, vA, vn, vc, vis⟩) := fun h => by have := h.lab; simp only at this; rw [hlab] at this; cases this
    clear hlab
    go_wp2_with (go_at_call 99; refine HRL.out.mono ?_; rintro e w1 ⟨rfl, rfl⟩)
    go_ret
    exact RvdEnd.no hF.out HB0.out
  | true =>
    rw [hlab] at HRL
    have HLAB := Lib.hid hlab
    clear hlab
    by_cases hkd : kind = 1 ∨ kind = 2
    case neg =>
      have hF : Hid (¬ TOk ts ⟨tl, kind, dA, dn, dc, deps, vA, vn, vc, vis⟩) := fun h => hkd h.kind
      have q1 : (kind != 1) = true := by rw [bne_iff_ne]; omega
      have q2 : (kind != 2) = true := by rw [bne_iff_ne]; omega
      clear hkd
      go_wp2_with (go_at_call 99; refine HRL.out.mono ?_; rintro e w1 ⟨rfl, rfl⟩)
      go_ret
      exact RvdEnd.no hF.out HB0.out
    have HKD := Lib.hid hkd
    obtain ⟨b1, q1⟩ : ∃ b1, (kind != 1) = b1 := ⟨_, rfl⟩
    have q2 : b1 = true → (kind != 2) = false := fun h => by
      rw [h, bne_iff_ne] at q1
      rw [Bool.eq_false_iff]; intro h2; rw [bne_iff_ne] at h2; omega
    clear hkd
    cases b1
    case' true => replace q2 := q2 rfl
    case' false => clear q2
    all_goals
      go_wp2_with (first
        | (go_at_call 99; refine HRL.out.mono ?_; rintro e w1 ⟨rfl, rfl⟩)
        | (go_at_call 109; refine HDF.out.mono ?_; rintro e w1 ⟨r, rfl, hr, hb1⟩; refine halt_ ?_))
      refine unhalt ?_
      have HR := Lib.hid hr
      have HB1 := Lib.hid hb1
      have hz1 := hb1.size
      have HBv : Hid (Below w.heap.size w w1) := HB0.out.trans (hb1.mono (by omega))
      have HG1 := Lib.hid (HG.out.below hb1 (by omega)); have HT1 := Lib.hid (HT.out.below hb1 (by omega))
      clear hr q1 hb1 g0 x0 x1 x2 x3 HG HT
      have x2 := HT1.out.cell 2
      simp at x2
      cases r with
      | false =>
        have hF : Hid (¬ TOk ts ⟨tl, kind, dA, dn, dc, deps, vA, vn, vc, vis⟩) := fun h => by have := HR.out.2 ⟨h.nod, h.few⟩; cases this
        go_wp2
        go_ret
        exact RvdEnd.no hF.out HBv.out
      | true =>
        have HND := Lib.hid (HR.out.1 rfl)
        clear HR HDF HRL
        go_wp2
        go_loopw [5] (fun i wr => ∃ k : Nat, k ≤ dn ∧ i = .int .i64 k ∧ Hid (Below w1.heap.size w1 wr) ∧ Hid (∀ x ∈ deps.take k, kindOf ts x = 1)) (fun i _ => dn - (intOf i).toNat)
        case atStart => exact ⟨0, Nat.zero_le _, rfl, Below.refl _ _, fun x hx => by simp at hx⟩
        case round =>
          obtain ⟨k, hk, rfl, hBel, hK⟩ := hrel
          have hwr := hBel.out.size
          have HBr : Hid (Below w.heap.size w wr) := HBv.out.trans (hBel.out.mono (by omega))
          have HG2 := Lib.hid (HG1.out.below hBel.out (by omega)); have HT2 := Lib.hid (HT1.out.below hBel.out (by omega))
          clear x2
          have g0 := HG2.out.cell 0
          have x2 := HT2.out.cell 2; have x3 := HT2.out.cell 3
          simp at g0 x2 x3
          by_cases hlt : k < dn
          · obtain ⟨db, doff, d, rfl, hdb, hd, y0⟩ := (HTO.out.d.below HBr.out hB).str_at hlt
            have hlz : (k : Int) < (dn : Int) := by omega
            have HTK := Lib.hid (take_snoc hd)
            have HDM := Lib.hid (List.mem_of_getElem? hd)
            have HFD : Hid (∀ q : Nat, Calls Tryz.prog 68 #[.slice A n c, .string d] (wr.drewN q) fun e w' => e = .returned (.int .i64 (posI ts d)) ∧ w' = wr.drewN q) :=
              fun q => (rfind_any A n c B ts d (wr.drewN q) ((H0.out.below HBr.out hB).drewN q) (by omega)).mono (fun e w' h => ⟨h.1, h.2.symm⟩)
            clear hd
            cases hft : findT ts d with
            | none =>
              have hF : Hid (¬ TOk ts ⟨tl, kind, some ⟨db, doff, none⟩, dn, dc, deps, vA, vn, vc, vis⟩) := fun h => by
                have := h.dep d HDM.out; unfold kindOf at this; rw [hft] at this; cases this
              rw [posI_none hft] at HFD
              clear hft
              go_wp2_with fail
              go_quiet (first | (go_at_call 68; exact Calls.quiet_of_same (HFD.out _)))
              go_wp2
              go_ret
              exact RvdEnd.no hF.out (below_drewN HBr.out _)
            | some t' =>
              obtain ⟨ki, hki, hti⟩ := posI_some hft
              have hkn : ki < n := by have := (List.getElem?_eq_some_iff.1 hti).1; rw [HTL.out] at this; exact this
              have HKO : Hid (kindOf ts d = t'.kind) := by show _ = _; unfold kindOf; rw [hft]
              obtain ⟨b, off, t2, rfl, hbB, ht2, z0, z1, z2, z3⟩ := (H0.out.below HBr.out hB).tg hkn
              rw [hti] at ht2
              cases ht2
              have hkz : (ki : Int) < (n : Int) := by omega
              have hkz2 : ¬ ((ki : Int) < 0) := by omega
              rw [hki] at HFD
              obtain ⟨k2, hk2⟩ : ∃ k2, t'.kind = k2 := ⟨_, rfl⟩
              rw [hk2] at z1 HKO
              clear z0 z2 z3 hft hki hti hk2
              by_cases hk1 : k2 = 1
              · have q3 : (k2 != 1) = false := by rw [hk1]; rfl
                have hN2 : Hid (∀ x ∈ deps.take (k + 1), kindOf ts x = 1) := fun x hx => by
                  rw [HTK.out] at hx
                  rcases List.mem_append.1 hx with hx | hx
                  · exact hK.out x hx
                  · rw [List.mem_singleton.1 hx, HKO.out]; exact hk1
                clear hk1
                go_wp2_with fail
                go_quiet (first | (go_at_call 68; exact Calls.quiet_of_same (HFD.out _)))
                go_wp2
                go_roundw
                case rel => exact ⟨k + 1, hlt, by go_num, below_drewN hBel.out _, hN2.out⟩
                case measure => simp [intOf]; omega
              · have q3 : (k2 != 1) = true := by rw [bne_iff_ne]; exact hk1
                have hF : Hid (¬ TOk ts ⟨tl, kind, some ⟨db, doff, none⟩, dn, dc, deps, vA, vn, vc, vis⟩) := fun h => by
                  have := h.dep d HDM.out; rw [HKO.out] at this; exact hk1 this
                clear hk1
                go_wp2_with fail
                go_quiet (first | (go_at_call 68; exact Calls.quiet_of_same (HFD.out _)))
                go_wp2
                go_ret
                exact RvdEnd.no hF.out (below_drewN HBr.out _)
          · have hlz : ¬ (k : Int) < (dn : Int) := by omega
            have HDP : Hid (∀ x ∈ deps, kindOf ts x = 1) := by
              have h1 := hK.out; rwa [List.take_of_length_le (by rw [HDL.out]; omega)] at h1
            clear hK
            have HBq : Hid (Below w.heap.size w (wr.alloc (.cells #[.int .i64 1, .string nameX, .slice none 0 0, .slice vA vn vc] 60))) := HBr.out.alloc HBr.out.size _
            have hbk : Bk (wr.alloc (.cells #[.int .i64 1, .string nameX, .slice none 0 0, .slice vA vn vc] 60)) wr.heap.size 60 #[.int .i64 1, .string nameX, .slice none 0 0, .slice vA vn vc] := Bk.new wr _ _
            have HCK := Lib.hid (rcheckOne_any vA vn vc B wr.heap.size vis (wr.alloc (.cells #[.int .i64 1, .string nameX, .slice none 0 0, .slice vA vn vc] 60)) (HTO.out.v.below HBq.out hB) (Nat.le_trans hB HBq.out.size) HTO.out.vle HTO.out.vmax HTO.out.vs hbk)
            clear hbk
            have HV : Hid ((visE vis == 0) = true ↔ TOk ts ⟨tl, kind, dA, dn, dc, deps, vA, vn, vc, vis⟩) := by
              show _ ↔ _
              rw [beq_iff_eq]
              exact ⟨fun h => ⟨HLAB.out, HKD.out, HND.out.2, HDP.out, HND.out.1, h⟩, fun h => h.vis⟩
            generalize visE vis = ve at *
            go_wp2_with (go_at_call 110; refine HCK.out.mono ?_; rintro e w2 ⟨rfl, hb2⟩)
            go_ret
            exact ⟨_, rfl, HV.out, HBq.out.trans (hb2.mono HBq.out.size)⟩
theorem wrap_small {x : Int} (h1 : -9223372036854775808 ≤ x) (h2 : x < 9223372036854775808) : IntKind.i64.wrap x = x := by
  rw [IntKind.wrap_i64]; omega
def RvldEnd (ts : List Tg) (w : World) (e : Ending) (w' : World) : Prop := ∃ r : Bool, e = .returned (.bool r) ∧ (r = true ↔ Vld ts) ∧ Below w.heap.size w w'
theorem RvldEnd.no {ts : List Tg} {w w' : World} (h : ¬ Vld ts) (hb : Below w.heap.size w w') : RvldEnd ts w (.returned (.bool false)) w' := ⟨false, rfl, ⟨(fun e => by cases e), fun e => absurd e h⟩, hb⟩
theorem CycQ.ne {nx : ByteArray → List ByteArray} {s x : ByteArray} {l : List ByteArray} {q : Nat} (h : CycQ nx s l x q) : l ≠ [] := by
  cases h <;> simp
theorem RcyR.empty {ts : List Tg} {l : List ByteArray} (h : RcyR ts l) : l = [] ↔ ∀ s, ¬ Rch (nxT ts) s s := by
  rcases h with ⟨h1, h2⟩ | ⟨s, x, h1, h2, h3, h4⟩
  · exact ⟨fun _ => h2, fun _ => h1⟩
  · constructor
    · intro e
      exact absurd e h4.ne
    · intro e; exact absurd h2 (e s)
set_option maxRecDepth 100000 in
set_option maxHeartbeats 8000000 in
theorem rvalid_any (A : Option Addr) (n c B : Nat) (ts : List Tg) (w : World) (h0 : Sl w B 4 A n (flat tgC ts)) (hok : ∀ t ∈ ts, TgOk w B t) (hB : B ≤ w.heap.size) (hnc : n ≤ c) (hcm : c ≤ maxLen) :
    Calls Tryz.prog 27 #[.agg #[.slice A n c]] w (RvldEnd ts w) := by
  have HTL := Lib.hid (h0.len tgC_len (by omega))
  have H0 := Lib.hid h0; have HOK := Lib.hid hok
  clear h0 hok
  have hnm : n ≤ 9223372036854775807 := by unfold maxLen at hcm; omega
  obtain ⟨W0, hW0⟩ : ∃ W0, w.alloc (.cells #[.slice A n c] 27) = W0 := ⟨_, rfl⟩
  have HB0 : Hid (Below w.heap.size w W0) := by rw [← hW0]; exact (Below.refl _ w).alloc (Nat.le_refl _) _
  have zW0 : W0.heap.size = w.heap.size + 1 := by rw [← hW0]; simp
  have HG : Hid (Bk W0 w.heap.size 27 #[.slice A n c]) := by rw [← hW0]; exact Bk.new w _ _
  have g0 := HG.out.cell 0
  simp at g0
  go_enter Tryz.func27, Tryz.ntmps27
  by_cases hbig : 100 < n
  · have hF : Hid (¬ Vld ts) := fun h => by have := h.few; rw [HTL.out] at this; omega
    have hlz : (100 : Int) < (n : Int) := by omega
    go_wp2_with fail
    go_ret
    exact RvldEnd.no hF.out HB0.out
  · have hlz : ¬ (100 : Int) < (n : Int) := by omega
    go_wp2_with fail
    go_loopw [3] (fun i wr => ∃ k : Nat, k ≤ n ∧ i = .int .i64 k ∧ Hid (Upto ts k) ∧ Hid (Below W0.heap.size W0 wr)) (fun i _ => n - (intOf i).toNat)
    case atStart => exact ⟨0, Nat.zero_le _, rfl, Upto.start ts, Below.refl _ _⟩
    case round =>
      obtain ⟨k, hk, rfl, hU, hBel⟩ := hrel
      have hwr := hBel.out.size
      have HBw : Hid (Below w.heap.size w wr) := HB0.out.trans (hBel.out.mono (by omega))
      have HGr : Hid (Bk wr w.heap.size 27 #[.slice A n c]) := HG.out.below hBel.out (by omega)
      have gr := HGr.out.cell 0
      simp at gr
      have HGR := Lib.hid gr
      by_cases hlt : k < n
      · obtain ⟨b, off, t, rfl, hbB, ht, y0, y1, y2, y3⟩ := (H0.out.below HBw.out hB).tg hlt
        have hkz : (k : Int) < (n : Int) := by omega
        have HT := Lib.hid ht
        have HTO := Lib.hid (HOK.out t (List.mem_of_getElem? ht))
        have HY0 := Lib.hid y0; have HY1 := Lib.hid y1; have HY2 := Lib.hid y2; have HY3 := Lib.hid y3
        clear ht y0 y1 y2 y3
        obtain ⟨rv, hrv⟩ : ∃ rv : Bool, rv = true ↔ TOk ts t := by
          by_cases h : TOk ts t
          · exact ⟨true, by simp [h]⟩
          · exact ⟨false, by simp [h]⟩
        have HRV := Lib.hid hrv
        have HVC : Hid (∀ W, Below wr.heap.size wr W → Calls Tryz.prog 71 #[.agg #[.slice (some ⟨b, off, none⟩) n c], .agg #[.string t.lab, .int .i64 t.kind, .slice t.dA t.dn t.dc, .slice t.vA t.vn t.vc]] W (fun e w' => e = .returned (.bool rv) ∧ Below W.heap.size W w')) := fun W hR =>
          (rvalid1_any (some ⟨b, off, none⟩) n c B ts t W ((H0.out.below HBw.out hB).below hR (by omega)) ((HTO.out.below HBw.out hB).below hR (by omega)) (by have := hR.size; omega) (by omega)).mono (by
            rintro e w' ⟨r, rfl, h1, h2⟩
            refine ⟨?_, h2⟩
            have : r = rv := by rw [Bool.eq_iff_iff]; exact h1.trans HRV.out.symm
            rw [this])
        clear hrv
        cases k with
        | zero =>
          cases rv with
          | false =>
            have hF : Hid (¬ Vld ts) := fun h => by have := HRV.out.2 (h.at_ HT.out); cases this
            go_wp2_with fail
            refine wp_region_stableGD 27 (15 :: 16 :: 17 :: 18 :: 19 :: 20 :: 21 :: 22 :: 23 :: 24 :: 25 :: 26 :: 27 :: 28 :: 29 :: 30 :: 31 :: 32 :: 33 :: 34 :: 35 :: 36 :: 37 :: 38 :: 39 :: 40 :: 41 :: []) (by kernel_rfl) (by kernel_rfl) (by kernel_rfl) (fun W => Below wr.heap.size wr W) (fun W W' => Below W.heap.size W W')
              (vPhi ((.int .i64 (0 : Nat)) :: (.bool false) :: (.bool false) :: (undef) :: (undef) :: (undef) :: (undef) :: (undef) :: (undef) :: (undef) :: (undef) :: (undef) :: (undef) :: (undef) :: (undef) :: (undef) :: (undef) :: (.bool false) :: (.bool false) :: (.agg #[.slice (some ⟨b, off, none⟩) n c]) :: (.pointer (some ⟨w.heap.size, 0, none⟩)) :: (.slice (some ⟨b, off, none⟩) n c) :: (.int .i64 (0 : Nat)) :: (.pointer (some ⟨b, off, none⟩)) :: (.agg #[.string t.lab, .int .i64 t.kind, .slice t.dA t.dn t.dc, .slice t.vA t.vn t.vc]) :: (.bool false) :: (.bool true) :: [])) (fun W W' h1 h2 => h1.trans (h2.mono h1.size)) (fun i v W W' h _ => h) (Below.refl _ _).drew ?stepZ0 ?tailZ0
            case stepZ0 =>
              intro i o vs W hi ho hv hR hphi
              obtain ⟨v0, v1, v2, v3, v4, v5, v6, v7, v8, v9, v10, v11, v12, v13, v14, v15, v16, v17, v18, v19, v20, v21, v22, v23, v24, v25, v26, rfl⟩ := ls27 hv
              simp only [List.zip, List.zipWith, putAll, Act.put, List.setIfInBounds_toArray, List.set]
              have hWz := hR.size
              have l0 := (hR.cell (p := ⟨w.heap.size, 0, none⟩) (by show w.heap.size < _; omega)).trans HGR.out
              have l1 := (hR.cell (p := ⟨b, off, none⟩) (by show b < _; omega)).trans HY0.out
              have l2 := (hR.cell (p := ⟨b, off + 1, none⟩) (by show b < _; omega)).trans HY1.out
              have l3 := (hR.cell (p := ⟨b, off + 2, none⟩) (by show b < _; omega)).trans HY2.out
              have l4 := (hR.cell (p := ⟨b, off + 3, none⟩) (by show b < _; omega)).trans HY3.out
              match i, hi, ho with
              | 0, _, rfl =>
                exact .inl ⟨rfl, gives_value (v := .int .i64 (0 : Nat)) (w' := W) (by go_simp) ⟨Below.refl _ _, fun u hu => by cases hu; rfl⟩⟩
              | 1, _, rfl =>
                have e0 : v0 = _ := hphi ⟨0, .data⟩ (by simp) rfl v0 rfl _ rfl
                subst e0
                exact .inl ⟨rfl, gives_value (v := .bool false) (w' := W) (by go_simp) ⟨Below.refl _ _, fun u hu => by cases hu; rfl⟩⟩
              | 2, _, rfl =>
                have e1 : v1 = _ := hphi ⟨1, .data⟩ (by simp) rfl v1 rfl _ rfl
                subst e1
                exact .inl ⟨rfl, gives_value (v := .bool false) (w' := W) (by go_simp) ⟨Below.refl _ _, fun u hu => by cases hu; rfl⟩⟩
              | 3, _, rfl =>
                have e2 : v2 = _ := hphi ⟨2, .guard⟩ (by simp) rfl v2 rfl _ rfl
                subst e2
                exact .inr ⟨rfl, Below.refl _ _, fun u hu => by cases hu; rfl⟩
              | 4, _, rfl =>
                have e3 : v3 = _ := hphi ⟨3, .data⟩ (by simp) rfl v3 rfl _ rfl
                have e2 : v2 = _ := hphi ⟨2, .guard⟩ (by simp) rfl v2 rfl _ rfl
                subst e2 e3
                exact .inr ⟨rfl, Below.refl _ _, fun u hu => by cases hu; rfl⟩
              | 5, _, rfl =>
                have e2 : v2 = _ := hphi ⟨2, .guard⟩ (by simp) rfl v2 rfl _ rfl
                subst e2
                exact .inr ⟨rfl, Below.refl _ _, fun u hu => by cases hu; rfl⟩
              | 6, _, rfl =>
                have e5 : v5 = _ := hphi ⟨5, .data⟩ (by simp) rfl v5 rfl _ rfl
                have e2 : v2 = _ := hphi ⟨2, .guard⟩ (by simp) rfl v2 rfl _ rfl
                subst e2 e5
                exact .inr ⟨rfl, Below.refl _ _, fun u hu => by cases hu; rfl⟩
              | 7, _, rfl =>
                have e4 : v4 = _ := hphi ⟨4, .data⟩ (by simp) rfl v4 rfl _ rfl
                have e6 : v6 = _ := hphi ⟨6, .data⟩ (by simp) rfl v6 rfl _ rfl
                have e2 : v2 = _ := hphi ⟨2, .guard⟩ (by simp) rfl v2 rfl _ rfl
                subst e2 e4 e6
                exact .inr ⟨rfl, Below.refl _ _, fun u hu => by cases hu; rfl⟩
              | 8, _, rfl =>
                have e7 : v7 = _ := hphi ⟨7, .data⟩ (by simp) rfl v7 rfl _ rfl
                have e2 : v2 = _ := hphi ⟨2, .guard⟩ (by simp) rfl v2 rfl _ rfl
                subst e2 e7
                exact .inr ⟨rfl, Below.refl _ _, fun u hu => by cases hu; rfl⟩
              | 9, _, rfl =>
                have e8 : v8 = _ := hphi ⟨8, .data⟩ (by simp) rfl v8 rfl _ rfl
                have e2 : v2 = _ := hphi ⟨2, .guard⟩ (by simp) rfl v2 rfl _ rfl
                subst e2 e8
                exact .inr ⟨rfl, Below.refl _ _, fun u hu => by cases hu; rfl⟩
              | 10, _, rfl =>
                have e2 : v2 = _ := hphi ⟨2, .guard⟩ (by simp) rfl v2 rfl _ rfl
                subst e2
                exact .inr ⟨rfl, Below.refl _ _, fun u hu => by cases hu; rfl⟩
              | 11, _, rfl =>
                have e10 : v10 = _ := hphi ⟨10, .data⟩ (by simp) rfl v10 rfl _ rfl
                have e2 : v2 = _ := hphi ⟨2, .guard⟩ (by simp) rfl v2 rfl _ rfl
                subst e2 e10
                exact .inr ⟨rfl, Below.refl _ _, fun u hu => by cases hu; rfl⟩
              | 12, _, rfl =>
                have e2 : v2 = _ := hphi ⟨2, .guard⟩ (by simp) rfl v2 rfl _ rfl
                subst e2
                exact .inr ⟨rfl, Below.refl _ _, fun u hu => by cases hu; rfl⟩
              | 13, _, rfl =>
                have e11 : v11 = _ := hphi ⟨11, .data⟩ (by simp) rfl v11 rfl _ rfl
                have e12 : v12 = _ := hphi ⟨12, .data⟩ (by simp) rfl v12 rfl _ rfl
                have e2 : v2 = _ := hphi ⟨2, .guard⟩ (by simp) rfl v2 rfl _ rfl
                subst e2 e11 e12
                exact .inr ⟨rfl, Below.refl _ _, fun u hu => by cases hu; rfl⟩
              | 14, _, rfl =>
                have e13 : v13 = _ := hphi ⟨13, .data⟩ (by simp) rfl v13 rfl _ rfl
                have e2 : v2 = _ := hphi ⟨2, .guard⟩ (by simp) rfl v2 rfl _ rfl
                subst e2 e13
                exact .inr ⟨rfl, Below.refl _ _, fun u hu => by cases hu; rfl⟩
              | 15, _, rfl =>
                have e14 : v14 = _ := hphi ⟨14, .data⟩ (by simp) rfl v14 rfl _ rfl
                have e2 : v2 = _ := hphi ⟨2, .guard⟩ (by simp) rfl v2 rfl _ rfl
                subst e2 e14
                exact .inr ⟨rfl, Below.refl _ _, fun u hu => by cases hu; rfl⟩
              | 16, _, rfl =>
                have e9 : v9 = _ := hphi ⟨9, .data⟩ (by simp) rfl v9 rfl _ rfl
                have e15 : v15 = _ := hphi ⟨15, .data⟩ (by simp) rfl v15 rfl _ rfl
                have e2 : v2 = _ := hphi ⟨2, .guard⟩ (by simp) rfl v2 rfl _ rfl
                subst e2 e9 e15
                exact .inr ⟨rfl, Below.refl _ _, fun u hu => by cases hu; rfl⟩
              | 17, _, rfl =>
                have e2 : v2 = _ := hphi ⟨2, .data⟩ (by simp) rfl v2 rfl _ rfl
                have e16 : v16 = _ := hphi ⟨16, .data⟩ (by simp) rfl v16 rfl _ rfl
                subst e2 e16
                exact .inl ⟨rfl, gives_value (v := .bool false) (w' := W) (by go_simp) ⟨Below.refl _ _, fun u hu => by cases hu; rfl⟩⟩
              | 18, _, rfl =>
                have e17 : v17 = _ := hphi ⟨17, .data⟩ (by simp) rfl v17 rfl _ rfl
                subst e17
                exact .inl ⟨rfl, gives_value (v := .bool false) (w' := W) (by go_simp) ⟨Below.refl _ _, fun u hu => by cases hu; rfl⟩⟩
              | 19, _, rfl =>
                have e18 : v18 = _ := hphi ⟨18, .guard⟩ (by simp) rfl v18 rfl _ rfl
                subst e18
                exact .inl ⟨rfl, gives_value (v := .agg #[.slice (some ⟨b, off, none⟩) n c]) (w' := W) (by go_simp) ⟨Below.refl _ _, fun u hu => by cases hu; rfl⟩⟩
              | 20, _, rfl =>
                have e18 : v18 = _ := hphi ⟨18, .guard⟩ (by simp) rfl v18 rfl _ rfl
                subst e18
                exact .inl ⟨rfl, gives_value (v := .pointer (some ⟨w.heap.size, 0, none⟩)) (w' := W) (by go_simp) ⟨Below.refl _ _, fun u hu => by cases hu; rfl⟩⟩
              | 21, _, rfl =>
                have e20 : v20 = _ := hphi ⟨20, .data⟩ (by simp) rfl v20 rfl _ rfl
                have e18 : v18 = _ := hphi ⟨18, .guard⟩ (by simp) rfl v18 rfl _ rfl
                subst e18 e20
                exact .inl ⟨rfl, gives_value (v := .slice (some ⟨b, off, none⟩) n c) (w' := W) (by go_simp) ⟨Below.refl _ _, fun u hu => by cases hu; rfl⟩⟩
              | 22, _, rfl =>
                have e18 : v18 = _ := hphi ⟨18, .guard⟩ (by simp) rfl v18 rfl _ rfl
                subst e18
                exact .inl ⟨rfl, gives_value (v := .int .i64 (0 : Nat)) (w' := W) (by go_simp) ⟨Below.refl _ _, fun u hu => by cases hu; rfl⟩⟩
              | 23, _, rfl =>
                have e21 : v21 = _ := hphi ⟨21, .data⟩ (by simp) rfl v21 rfl _ rfl
                have e22 : v22 = _ := hphi ⟨22, .data⟩ (by simp) rfl v22 rfl _ rfl
                have e18 : v18 = _ := hphi ⟨18, .guard⟩ (by simp) rfl v18 rfl _ rfl
                subst e18 e21 e22
                exact .inl ⟨rfl, gives_value (v := .pointer (some ⟨b, off, none⟩)) (w' := W) (by go_simp) ⟨Below.refl _ _, fun u hu => by cases hu; rfl⟩⟩
              | 24, _, rfl =>
                have e23 : v23 = _ := hphi ⟨23, .data⟩ (by simp) rfl v23 rfl _ rfl
                have e18 : v18 = _ := hphi ⟨18, .guard⟩ (by simp) rfl v18 rfl _ rfl
                subst e18 e23
                exact .inl ⟨rfl, gives_value (v := .agg #[.string t.lab, .int .i64 t.kind, .slice t.dA t.dn t.dc, .slice t.vA t.vn t.vc]) (w' := W) (by go_simp) ⟨Below.refl _ _, fun u hu => by cases hu; rfl⟩⟩
              | 25, _, rfl =>
                have e19 : v19 = _ := hphi ⟨19, .data⟩ (by simp) rfl v19 rfl _ rfl
                have e24 : v24 = _ := hphi ⟨24, .data⟩ (by simp) rfl v24 rfl _ rfl
                have e18 : v18 = _ := hphi ⟨18, .guard⟩ (by simp) rfl v18 rfl _ rfl
                subst e18 e19 e24
                refine .inl ⟨rfl, gives_call (f := 71) (args := #[.agg #[.slice (some ⟨b, off, none⟩) n c], .agg #[.string t.lab, .int .i64 t.kind, .slice t.dA t.dn t.dc, .slice t.vA t.vn t.vc]]) (by go_simp) ((HVC.out W hR).mono ?_)⟩
                rintro e W' ⟨rfl, hb'⟩
                exact ⟨_, rfl, hb', fun u hu => by cases hu; rfl⟩
              | 26, _, rfl =>
                have e25 : v25 = _ := hphi ⟨25, .data⟩ (by simp) rfl v25 rfl _ rfl
                have e18 : v18 = _ := hphi ⟨18, .guard⟩ (by simp) rfl v18 rfl _ rfl
                subst e18 e25
                exact .inl ⟨rfl, gives_value (v := .bool true) (w' := W) (by go_simp) ⟨Below.refl _ _, fun u hu => by cases hu; rfl⟩⟩
              | i + 27, hi, _ => exact absurd hi (by omega)
            case tailZ0 =>
              intro vs W hv hR hphi
              obtain ⟨v0, v1, v2, v3, v4, v5, v6, v7, v8, v9, v10, v11, v12, v13, v14, v15, v16, v17, v18, v19, v20, v21, v22, v23, v24, v25, v26, rfl⟩ := ls27 hv
              simp only [List.zip, List.zipWith, putAll, Act.put, List.setIfInBounds_toArray, List.set, List.drop]
              have e0 : v0 = _ := hphi 0 v0 rfl _ rfl
              have e1 : v1 = _ := hphi 1 v1 rfl _ rfl
              have e2 : v2 = _ := hphi 2 v2 rfl _ rfl
              have e3 : v3 = _ := hphi 3 v3 rfl _ rfl
              have e4 : v4 = _ := hphi 4 v4 rfl _ rfl
              have e5 : v5 = _ := hphi 5 v5 rfl _ rfl
              have e6 : v6 = _ := hphi 6 v6 rfl _ rfl
              have e7 : v7 = _ := hphi 7 v7 rfl _ rfl
              have e8 : v8 = _ := hphi 8 v8 rfl _ rfl
              have e9 : v9 = _ := hphi 9 v9 rfl _ rfl
              have e10 : v10 = _ := hphi 10 v10 rfl _ rfl
              have e11 : v11 = _ := hphi 11 v11 rfl _ rfl
              have e12 : v12 = _ := hphi 12 v12 rfl _ rfl
              have e13 : v13 = _ := hphi 13 v13 rfl _ rfl
              have e14 : v14 = _ := hphi 14 v14 rfl _ rfl
              have e15 : v15 = _ := hphi 15 v15 rfl _ rfl
              have e16 : v16 = _ := hphi 16 v16 rfl _ rfl
              have e17 : v17 = _ := hphi 17 v17 rfl _ rfl
              have e18 : v18 = _ := hphi 18 v18 rfl _ rfl
              have e19 : v19 = _ := hphi 19 v19 rfl _ rfl
              have e20 : v20 = _ := hphi 20 v20 rfl _ rfl
              have e21 : v21 = _ := hphi 21 v21 rfl _ rfl
              have e22 : v22 = _ := hphi 22 v22 rfl _ rfl
              have e23 : v23 = _ := hphi 23 v23 rfl _ rfl
              have e24 : v24 = _ := hphi 24 v24 rfl _ rfl
              have e25 : v25 = _ := hphi 25 v25 rfl _ rfl
              have e26 : v26 = _ := hphi 26 v26 rfl _ rfl
              subst e0 e1 e2 e3 e4 e5 e6 e7 e8 e9 e10 e11 e12 e13 e14 e15 e16 e17 e18 e19 e20 e21 e22 e23 e24 e25 e26
              clear hphi hv
              have HBW : Hid (Below w.heap.size w W) := HBw.out.trans (hR.mono HBw.out.size)
              clear hR
              go_wp2
              go_ret
              exact RvldEnd.no hF.out HBW.out
          | true =>
            have HU2 : Hid (Upto ts (0 + 1)) := hU.out.step HT.out (HRV.out.1 rfl) (fun p h => absurd h (by omega))
            go_wp2_with fail
            refine wp_region_stableGD 27 (15 :: 16 :: 17 :: 18 :: 19 :: 20 :: 21 :: 22 :: 23 :: 24 :: 25 :: 26 :: 27 :: 28 :: 29 :: 30 :: 31 :: 32 :: 33 :: 34 :: 35 :: 36 :: 37 :: 38 :: 39 :: 40 :: 41 :: []) (by kernel_rfl) (by kernel_rfl) (by kernel_rfl) (fun W => Below wr.heap.size wr W) (fun W W' => Below W.heap.size W W')
              (vPhi ((.int .i64 (0 : Nat)) :: (.bool false) :: (.bool false) :: (undef) :: (undef) :: (undef) :: (undef) :: (undef) :: (undef) :: (undef) :: (undef) :: (undef) :: (undef) :: (undef) :: (undef) :: (undef) :: (undef) :: (.bool false) :: (.bool false) :: (.agg #[.slice (some ⟨b, off, none⟩) n c]) :: (.pointer (some ⟨w.heap.size, 0, none⟩)) :: (.slice (some ⟨b, off, none⟩) n c) :: (.int .i64 (0 : Nat)) :: (.pointer (some ⟨b, off, none⟩)) :: (.agg #[.string t.lab, .int .i64 t.kind, .slice t.dA t.dn t.dc, .slice t.vA t.vn t.vc]) :: (.bool true) :: (.bool false) :: [])) (fun W W' h1 h2 => h1.trans (h2.mono h1.size)) (fun i v W W' h _ => h) (Below.refl _ _).drew ?stepZ1 ?tailZ1
            case stepZ1 =>
              intro i o vs W hi ho hv hR hphi
              obtain ⟨v0, v1, v2, v3, v4, v5, v6, v7, v8, v9, v10, v11, v12, v13, v14, v15, v16, v17, v18, v19, v20, v21, v22, v23, v24, v25, v26, rfl⟩ := ls27 hv
              simp only [List.zip, List.zipWith, putAll, Act.put, List.setIfInBounds_toArray, List.set]
              have hWz := hR.size
              have l0 := (hR.cell (p := ⟨w.heap.size, 0, none⟩) (by show w.heap.size < _; omega)).trans HGR.out
              have l1 := (hR.cell (p := ⟨b, off, none⟩) (by show b < _; omega)).trans HY0.out
              have l2 := (hR.cell (p := ⟨b, off + 1, none⟩) (by show b < _; omega)).trans HY1.out
              have l3 := (hR.cell (p := ⟨b, off + 2, none⟩) (by show b < _; omega)).trans HY2.out
              have l4 := (hR.cell (p := ⟨b, off + 3, none⟩) (by show b < _; omega)).trans HY3.out
              match i, hi, ho with
              | 0, _, rfl =>
                exact .inl ⟨rfl, gives_value (v := .int .i64 (0 : Nat)) (w' := W) (by go_simp) ⟨Below.refl _ _, fun u hu => by cases hu; rfl⟩⟩
              | 1, _, rfl =>
                have e0 : v0 = _ := hphi ⟨0, .data⟩ (by simp) rfl v0 rfl _ rfl
                subst e0
                exact .inl ⟨rfl, gives_value (v := .bool false) (w' := W) (by go_simp) ⟨Below.refl _ _, fun u hu => by cases hu; rfl⟩⟩
              | 2, _, rfl =>
                have e1 : v1 = _ := hphi ⟨1, .data⟩ (by simp) rfl v1 rfl _ rfl
                subst e1
                exact .inl ⟨rfl, gives_value (v := .bool false) (w' := W) (by go_simp) ⟨Below.refl _ _, fun u hu => by cases hu; rfl⟩⟩
              | 3, _, rfl =>
                have e2 : v2 = _ := hphi ⟨2, .guard⟩ (by simp) rfl v2 rfl _ rfl
                subst e2
                exact .inr ⟨rfl, Below.refl _ _, fun u hu => by cases hu; rfl⟩
              | 4, _, rfl =>
                have e3 : v3 = _ := hphi ⟨3, .data⟩ (by simp) rfl v3 rfl _ rfl
                have e2 : v2 = _ := hphi ⟨2, .guard⟩ (by simp) rfl v2 rfl _ rfl
                subst e2 e3
                exact .inr ⟨rfl, Below.refl _ _, fun u hu => by cases hu; rfl⟩
              | 5, _, rfl =>
                have e2 : v2 = _ := hphi ⟨2, .guard⟩ (by simp) rfl v2 rfl _ rfl
                subst e2
                exact .inr ⟨rfl, Below.refl _ _, fun u hu => by cases hu; rfl⟩
              | 6, _, rfl =>
                have e5 : v5 = _ := hphi ⟨5, .data⟩ (by simp) rfl v5 rfl _ rfl
                have e2 : v2 = _ := hphi ⟨2, .guard⟩ (by simp) rfl v2 rfl _ rfl
                subst e2 e5
                exact .inr ⟨rfl, Below.refl _ _, fun u hu => by cases hu; rfl⟩
              | 7, _, rfl =>
                have e4 : v4 = _ := hphi ⟨4, .data⟩ (by simp) rfl v4 rfl _ rfl
                have e6 : v6 = _ := hphi ⟨6, .data⟩ (by simp) rfl v6 rfl _ rfl
                have e2 : v2 = _ := hphi ⟨2, .guard⟩ (by simp) rfl v2 rfl _ rfl
                subst e2 e4 e6
                exact .inr ⟨rfl, Below.refl _ _, fun u hu => by cases hu; rfl⟩
              | 8, _, rfl =>
                have e7 : v7 = _ := hphi ⟨7, .data⟩ (by simp) rfl v7 rfl _ rfl
                have e2 : v2 = _ := hphi ⟨2, .guard⟩ (by simp) rfl v2 rfl _ rfl
                subst e2 e7
                exact .inr ⟨rfl, Below.refl _ _, fun u hu => by cases hu; rfl⟩
              | 9, _, rfl =>
                have e8 : v8 = _ := hphi ⟨8, .data⟩ (by simp) rfl v8 rfl _ rfl
                have e2 : v2 = _ := hphi ⟨2, .guard⟩ (by simp) rfl v2 rfl _ rfl
                subst e2 e8
                exact .inr ⟨rfl, Below.refl _ _, fun u hu => by cases hu; rfl⟩
              | 10, _, rfl =>
                have e2 : v2 = _ := hphi ⟨2, .guard⟩ (by simp) rfl v2 rfl _ rfl
                subst e2
                exact .inr ⟨rfl, Below.refl _ _, fun u hu => by cases hu; rfl⟩
              | 11, _, rfl =>
                have e10 : v10 = _ := hphi ⟨10, .data⟩ (by simp) rfl v10 rfl _ rfl
                have e2 : v2 = _ := hphi ⟨2, .guard⟩ (by simp) rfl v2 rfl _ rfl
                subst e2 e10
                exact .inr ⟨rfl, Below.refl _ _, fun u hu => by cases hu; rfl⟩
              | 12, _, rfl =>
                have e2 : v2 = _ := hphi ⟨2, .guard⟩ (by simp) rfl v2 rfl _ rfl
                subst e2
                exact .inr ⟨rfl, Below.refl _ _, fun u hu => by cases hu; rfl⟩
              | 13, _, rfl =>
                have e11 : v11 = _ := hphi ⟨11, .data⟩ (by simp) rfl v11 rfl _ rfl
                have e12 : v12 = _ := hphi ⟨12, .data⟩ (by simp) rfl v12 rfl _ rfl
                have e2 : v2 = _ := hphi ⟨2, .guard⟩ (by simp) rfl v2 rfl _ rfl
                subst e2 e11 e12
                exact .inr ⟨rfl, Below.refl _ _, fun u hu => by cases hu; rfl⟩
              | 14, _, rfl =>
                have e13 : v13 = _ := hphi ⟨13, .data⟩ (by simp) rfl v13 rfl _ rfl
                have e2 : v2 = _ := hphi ⟨2, .guard⟩ (by simp) rfl v2 rfl _ rfl
                subst e2 e13
                exact .inr ⟨rfl, Below.refl _ _, fun u hu => by cases hu; rfl⟩
              | 15, _, rfl =>
                have e14 : v14 = _ := hphi ⟨14, .data⟩ (by simp) rfl v14 rfl _ rfl
                have e2 : v2 = _ := hphi ⟨2, .guard⟩ (by simp) rfl v2 rfl _ rfl
                subst e2 e14
                exact .inr ⟨rfl, Below.refl _ _, fun u hu => by cases hu; rfl⟩
              | 16, _, rfl =>
                have e9 : v9 = _ := hphi ⟨9, .data⟩ (by simp) rfl v9 rfl _ rfl
                have e15 : v15 = _ := hphi ⟨15, .data⟩ (by simp) rfl v15 rfl _ rfl
                have e2 : v2 = _ := hphi ⟨2, .guard⟩ (by simp) rfl v2 rfl _ rfl
                subst e2 e9 e15
                exact .inr ⟨rfl, Below.refl _ _, fun u hu => by cases hu; rfl⟩
              | 17, _, rfl =>
                have e2 : v2 = _ := hphi ⟨2, .data⟩ (by simp) rfl v2 rfl _ rfl
                have e16 : v16 = _ := hphi ⟨16, .data⟩ (by simp) rfl v16 rfl _ rfl
                subst e2 e16
                exact .inl ⟨rfl, gives_value (v := .bool false) (w' := W) (by go_simp) ⟨Below.refl _ _, fun u hu => by cases hu; rfl⟩⟩
              | 18, _, rfl =>
                have e17 : v17 = _ := hphi ⟨17, .data⟩ (by simp) rfl v17 rfl _ rfl
                subst e17
                exact .inl ⟨rfl, gives_value (v := .bool false) (w' := W) (by go_simp) ⟨Below.refl _ _, fun u hu => by cases hu; rfl⟩⟩
              | 19, _, rfl =>
                have e18 : v18 = _ := hphi ⟨18, .guard⟩ (by simp) rfl v18 rfl _ rfl
                subst e18
                exact .inl ⟨rfl, gives_value (v := .agg #[.slice (some ⟨b, off, none⟩) n c]) (w' := W) (by go_simp) ⟨Below.refl _ _, fun u hu => by cases hu; rfl⟩⟩
              | 20, _, rfl =>
                have e18 : v18 = _ := hphi ⟨18, .guard⟩ (by simp) rfl v18 rfl _ rfl
                subst e18
                exact .inl ⟨rfl, gives_value (v := .pointer (some ⟨w.heap.size, 0, none⟩)) (w' := W) (by go_simp) ⟨Below.refl _ _, fun u hu => by cases hu; rfl⟩⟩
              | 21, _, rfl =>
                have e20 : v20 = _ := hphi ⟨20, .data⟩ (by simp) rfl v20 rfl _ rfl
                have e18 : v18 = _ := hphi ⟨18, .guard⟩ (by simp) rfl v18 rfl _ rfl
                subst e18 e20
                exact .inl ⟨rfl, gives_value (v := .slice (some ⟨b, off, none⟩) n c) (w' := W) (by go_simp) ⟨Below.refl _ _, fun u hu => by cases hu; rfl⟩⟩
              | 22, _, rfl =>
                have e18 : v18 = _ := hphi ⟨18, .guard⟩ (by simp) rfl v18 rfl _ rfl
                subst e18
                exact .inl ⟨rfl, gives_value (v := .int .i64 (0 : Nat)) (w' := W) (by go_simp) ⟨Below.refl _ _, fun u hu => by cases hu; rfl⟩⟩
              | 23, _, rfl =>
                have e21 : v21 = _ := hphi ⟨21, .data⟩ (by simp) rfl v21 rfl _ rfl
                have e22 : v22 = _ := hphi ⟨22, .data⟩ (by simp) rfl v22 rfl _ rfl
                have e18 : v18 = _ := hphi ⟨18, .guard⟩ (by simp) rfl v18 rfl _ rfl
                subst e18 e21 e22
                exact .inl ⟨rfl, gives_value (v := .pointer (some ⟨b, off, none⟩)) (w' := W) (by go_simp) ⟨Below.refl _ _, fun u hu => by cases hu; rfl⟩⟩
              | 24, _, rfl =>
                have e23 : v23 = _ := hphi ⟨23, .data⟩ (by simp) rfl v23 rfl _ rfl
                have e18 : v18 = _ := hphi ⟨18, .guard⟩ (by simp) rfl v18 rfl _ rfl
                subst e18 e23
                exact .inl ⟨rfl, gives_value (v := .agg #[.string t.lab, .int .i64 t.kind, .slice t.dA t.dn t.dc, .slice t.vA t.vn t.vc]) (w' := W) (by go_simp) ⟨Below.refl _ _, fun u hu => by cases hu; rfl⟩⟩
              | 25, _, rfl =>
                have e19 : v19 = _ := hphi ⟨19, .data⟩ (by simp) rfl v19 rfl _ rfl
                have e24 : v24 = _ := hphi ⟨24, .data⟩ (by simp) rfl v24 rfl _ rfl
                have e18 : v18 = _ := hphi ⟨18, .guard⟩ (by simp) rfl v18 rfl _ rfl
                subst e18 e19 e24
                refine .inl ⟨rfl, gives_call (f := 71) (args := #[.agg #[.slice (some ⟨b, off, none⟩) n c], .agg #[.string t.lab, .int .i64 t.kind, .slice t.dA t.dn t.dc, .slice t.vA t.vn t.vc]]) (by go_simp) ((HVC.out W hR).mono ?_)⟩
                rintro e W' ⟨rfl, hb'⟩
                exact ⟨_, rfl, hb', fun u hu => by cases hu; rfl⟩
              | 26, _, rfl =>
                have e25 : v25 = _ := hphi ⟨25, .data⟩ (by simp) rfl v25 rfl _ rfl
                have e18 : v18 = _ := hphi ⟨18, .guard⟩ (by simp) rfl v18 rfl _ rfl
                subst e18 e25
                exact .inl ⟨rfl, gives_value (v := .bool false) (w' := W) (by go_simp) ⟨Below.refl _ _, fun u hu => by cases hu; rfl⟩⟩
              | i + 27, hi, _ => exact absurd hi (by omega)
            case tailZ1 =>
              intro vs W hv hR hphi
              obtain ⟨v0, v1, v2, v3, v4, v5, v6, v7, v8, v9, v10, v11, v12, v13, v14, v15, v16, v17, v18, v19, v20, v21, v22, v23, v24, v25, v26, rfl⟩ := ls27 hv
              simp only [List.zip, List.zipWith, putAll, Act.put, List.setIfInBounds_toArray, List.set, List.drop]
              have e0 : v0 = _ := hphi 0 v0 rfl _ rfl
              have e1 : v1 = _ := hphi 1 v1 rfl _ rfl
              have e2 : v2 = _ := hphi 2 v2 rfl _ rfl
              have e3 : v3 = _ := hphi 3 v3 rfl _ rfl
              have e4 : v4 = _ := hphi 4 v4 rfl _ rfl
              have e5 : v5 = _ := hphi 5 v5 rfl _ rfl
              have e6 : v6 = _ := hphi 6 v6 rfl _ rfl
              have e7 : v7 = _ := hphi 7 v7 rfl _ rfl
              have e8 : v8 = _ := hphi 8 v8 rfl _ rfl
              have e9 : v9 = _ := hphi 9 v9 rfl _ rfl
              have e10 : v10 = _ := hphi 10 v10 rfl _ rfl
              have e11 : v11 = _ := hphi 11 v11 rfl _ rfl
              have e12 : v12 = _ := hphi 12 v12 rfl _ rfl
              have e13 : v13 = _ := hphi 13 v13 rfl _ rfl
              have e14 : v14 = _ := hphi 14 v14 rfl _ rfl
              have e15 : v15 = _ := hphi 15 v15 rfl _ rfl
              have e16 : v16 = _ := hphi 16 v16 rfl _ rfl
              have e17 : v17 = _ := hphi 17 v17 rfl _ rfl
              have e18 : v18 = _ := hphi 18 v18 rfl _ rfl
              have e19 : v19 = _ := hphi 19 v19 rfl _ rfl
              have e20 : v20 = _ := hphi 20 v20 rfl _ rfl
              have e21 : v21 = _ := hphi 21 v21 rfl _ rfl
              have e22 : v22 = _ := hphi 22 v22 rfl _ rfl
              have e23 : v23 = _ := hphi 23 v23 rfl _ rfl
              have e24 : v24 = _ := hphi 24 v24 rfl _ rfl
              have e25 : v25 = _ := hphi 25 v25 rfl _ rfl
              have e26 : v26 = _ := hphi 26 v26 rfl _ rfl
              subst e0 e1 e2 e3 e4 e5 e6 e7 e8 e9 e10 e11 e12 e13 e14 e15 e16 e17 e18 e19 e20 e21 e22 e23 e24 e25 e26
              clear hphi hv
              have HBW : Hid (Below W0.heap.size W0 W) := hBel.out.trans (hR.mono hwr)
              clear hR
              go_wp2
              go_roundw
              case rel => exact ⟨1, by omega, by go_num, HU2.out, HBW.out⟩
              case measure => simp [intOf]; omega
        | succ k =>
          obtain ⟨pp, hpp⟩ : ∃ pp, ts[k]? = some pp := by
            have h1 := (List.getElem?_eq_some_iff.1 HT.out).1
            exact ⟨ts[k]'(by omega), List.getElem?_eq_getElem (by omega)⟩
          obtain ⟨b2, off2, t2, hb2e, _, ht2, p0, _, _, _⟩ := (H0.out.below HBw.out hB).tg (show k < n by omega)
          cases hb2e
          rw [hpp] at ht2
          cases ht2
          have HP0 := Lib.hid p0
          have HPP := Lib.hid hpp
          have hkz3 : (0 : Int) < ((k + 1 : Nat) : Int) := by omega
          have hkz4 : ((k + 1 : Nat) : Int) - 1 = (k : Int) := by omega
          have hkz5 : (k : Int) < (n : Int) := by omega
          have hkz6 : ¬ ((k : Int) + 1 < 0) := by omega
          have hkz7 : IntKind.i64.wrap (k : Int) = (k : Int) := wrap_small (by omega) (by omega)
          clear p0 hpp
          have hle := less_str pp.lab t.lab
          cases hl : less pp.lab t.lab with
          | false =>
            rw [hl] at hle
            have hF : Hid (¬ Vld ts) := fun h => by have := h.next (k := k + 1) (by omega) HPP.out HT.out; rw [hl] at this; cases this
            clear hl
            go_wp2_with fail
            refine wp_region_stableGD 27 (15 :: 16 :: 17 :: 18 :: 19 :: 20 :: 21 :: 22 :: 23 :: 24 :: 25 :: 26 :: 27 :: 28 :: 29 :: 30 :: 31 :: 32 :: 33 :: 34 :: 35 :: 36 :: 37 :: 38 :: 39 :: 40 :: 41 :: []) (by kernel_rfl) (by kernel_rfl) (by kernel_rfl) (fun W => Below wr.heap.size wr W) (fun W W' => Below W.heap.size W W')
              (vPhi ((.int .i64 ((k + 1 : Nat) : Int)) :: (.bool true) :: (.bool true) :: (.pointer (some ⟨w.heap.size, 0, none⟩)) :: (.slice (some ⟨b, off, none⟩) n c) :: (.int .i64 ((k + 1 : Nat) : Int)) :: (.int .i64 (k : Int)) :: (.pointer (some ⟨b, off + k * 4, none⟩)) :: (.pointer (some ⟨b, off + k * 4, none⟩)) :: (.string pp.lab) :: (.pointer (some ⟨w.heap.size, 0, none⟩)) :: (.slice (some ⟨b, off, none⟩) n c) :: (.int .i64 ((k + 1 : Nat) : Int)) :: (.pointer (some ⟨b, off + (k + 1) * 4, none⟩)) :: (.pointer (some ⟨b, off + (k + 1) * 4, none⟩)) :: (.string t.lab) :: (.bool true) :: (.bool true) :: (.bool true) :: (undef) :: (undef) :: (undef) :: (undef) :: (undef) :: (undef) :: (undef) :: (undef) :: [])) (fun W W' h1 h2 => h1.trans (h2.mono h1.size)) (fun i v W W' h _ => h) (Below.refl _ _).drew ?stepG0 ?tailG0
            case stepG0 =>
              intro i o vs W hi ho hv hR hphi
              obtain ⟨v0, v1, v2, v3, v4, v5, v6, v7, v8, v9, v10, v11, v12, v13, v14, v15, v16, v17, v18, v19, v20, v21, v22, v23, v24, v25, v26, rfl⟩ := ls27 hv
              simp only [List.zip, List.zipWith, putAll, Act.put, List.setIfInBounds_toArray, List.set]
              have hWz := hR.size
              have l0 := (hR.cell (p := ⟨w.heap.size, 0, none⟩) (by show w.heap.size < _; omega)).trans HGR.out
              have l1 := (hR.cell (p := ⟨b, off + (k + 1) * 4, none⟩) (by show b < _; omega)).trans HY0.out
              have l2 := (hR.cell (p := ⟨b, off + (k + 1) * 4 + 1, none⟩) (by show b < _; omega)).trans HY1.out
              have l3 := (hR.cell (p := ⟨b, off + (k + 1) * 4 + 2, none⟩) (by show b < _; omega)).trans HY2.out
              have l4 := (hR.cell (p := ⟨b, off + (k + 1) * 4 + 3, none⟩) (by show b < _; omega)).trans HY3.out
              have l5 := (hR.cell (p := ⟨b, off + k * 4, none⟩) (by show b < _; omega)).trans HP0.out
              match i, hi, ho with
              | 0, _, rfl =>
                exact .inl ⟨rfl, gives_value (v := .int .i64 ((k + 1 : Nat) : Int)) (w' := W) (by go_simp) ⟨Below.refl _ _, fun u hu => by cases hu; rfl⟩⟩
              | 1, _, rfl =>
                have e0 : v0 = _ := hphi ⟨0, .data⟩ (by simp) rfl v0 rfl _ rfl
                subst e0
                exact .inl ⟨rfl, gives_value (v := .bool true) (w' := W) (by go_simp) ⟨Below.refl _ _, fun u hu => by cases hu; rfl⟩⟩
              | 2, _, rfl =>
                have e1 : v1 = _ := hphi ⟨1, .data⟩ (by simp) rfl v1 rfl _ rfl
                subst e1
                exact .inl ⟨rfl, gives_value (v := .bool true) (w' := W) (by go_simp) ⟨Below.refl _ _, fun u hu => by cases hu; rfl⟩⟩
              | 3, _, rfl =>
                have e2 : v2 = _ := hphi ⟨2, .guard⟩ (by simp) rfl v2 rfl _ rfl
                subst e2
                exact .inl ⟨rfl, gives_value (v := .pointer (some ⟨w.heap.size, 0, none⟩)) (w' := W) (by go_simp) ⟨Below.refl _ _, fun u hu => by cases hu; rfl⟩⟩
              | 4, _, rfl =>
                have e3 : v3 = _ := hphi ⟨3, .data⟩ (by simp) rfl v3 rfl _ rfl
                have e2 : v2 = _ := hphi ⟨2, .guard⟩ (by simp) rfl v2 rfl _ rfl
                subst e2 e3
                exact .inl ⟨rfl, gives_value (v := .slice (some ⟨b, off, none⟩) n c) (w' := W) (by go_simp) ⟨Below.refl _ _, fun u hu => by cases hu; rfl⟩⟩
              | 5, _, rfl =>
                have e2 : v2 = _ := hphi ⟨2, .guard⟩ (by simp) rfl v2 rfl _ rfl
                subst e2
                exact .inl ⟨rfl, gives_value (v := .int .i64 ((k + 1 : Nat) : Int)) (w' := W) (by go_simp) ⟨Below.refl _ _, fun u hu => by cases hu; rfl⟩⟩
              | 6, _, rfl =>
                have e5 : v5 = _ := hphi ⟨5, .data⟩ (by simp) rfl v5 rfl _ rfl
                have e2 : v2 = _ := hphi ⟨2, .guard⟩ (by simp) rfl v2 rfl _ rfl
                subst e2 e5
                exact .inl ⟨rfl, gives_value (v := .int .i64 (k : Int)) (w' := W) (by go_simp) ⟨Below.refl _ _, fun u hu => by cases hu; rfl⟩⟩
              | 7, _, rfl =>
                have e4 : v4 = _ := hphi ⟨4, .data⟩ (by simp) rfl v4 rfl _ rfl
                have e6 : v6 = _ := hphi ⟨6, .data⟩ (by simp) rfl v6 rfl _ rfl
                have e2 : v2 = _ := hphi ⟨2, .guard⟩ (by simp) rfl v2 rfl _ rfl
                subst e2 e4 e6
                exact .inl ⟨rfl, gives_value (v := .pointer (some ⟨b, off + k * 4, none⟩)) (w' := W) (by go_simp) ⟨Below.refl _ _, fun u hu => by cases hu; rfl⟩⟩
              | 8, _, rfl =>
                have e7 : v7 = _ := hphi ⟨7, .data⟩ (by simp) rfl v7 rfl _ rfl
                have e2 : v2 = _ := hphi ⟨2, .guard⟩ (by simp) rfl v2 rfl _ rfl
                subst e2 e7
                exact .inl ⟨rfl, gives_value (v := .pointer (some ⟨b, off + k * 4, none⟩)) (w' := W) (by go_simp) ⟨Below.refl _ _, fun u hu => by cases hu; rfl⟩⟩
              | 9, _, rfl =>
                have e8 : v8 = _ := hphi ⟨8, .data⟩ (by simp) rfl v8 rfl _ rfl
                have e2 : v2 = _ := hphi ⟨2, .guard⟩ (by simp) rfl v2 rfl _ rfl
                subst e2 e8
                exact .inl ⟨rfl, gives_value (v := .string pp.lab) (w' := W) (by go_simp) ⟨Below.refl _ _, fun u hu => by cases hu; rfl⟩⟩
              | 10, _, rfl =>
                have e2 : v2 = _ := hphi ⟨2, .guard⟩ (by simp) rfl v2 rfl _ rfl
                subst e2
                exact .inl ⟨rfl, gives_value (v := .pointer (some ⟨w.heap.size, 0, none⟩)) (w' := W) (by go_simp) ⟨Below.refl _ _, fun u hu => by cases hu; rfl⟩⟩
              | 11, _, rfl =>
                have e10 : v10 = _ := hphi ⟨10, .data⟩ (by simp) rfl v10 rfl _ rfl
                have e2 : v2 = _ := hphi ⟨2, .guard⟩ (by simp) rfl v2 rfl _ rfl
                subst e2 e10
                exact .inl ⟨rfl, gives_value (v := .slice (some ⟨b, off, none⟩) n c) (w' := W) (by go_simp) ⟨Below.refl _ _, fun u hu => by cases hu; rfl⟩⟩
              | 12, _, rfl =>
                have e2 : v2 = _ := hphi ⟨2, .guard⟩ (by simp) rfl v2 rfl _ rfl
                subst e2
                exact .inl ⟨rfl, gives_value (v := .int .i64 ((k + 1 : Nat) : Int)) (w' := W) (by go_simp) ⟨Below.refl _ _, fun u hu => by cases hu; rfl⟩⟩
              | 13, _, rfl =>
                have e11 : v11 = _ := hphi ⟨11, .data⟩ (by simp) rfl v11 rfl _ rfl
                have e12 : v12 = _ := hphi ⟨12, .data⟩ (by simp) rfl v12 rfl _ rfl
                have e2 : v2 = _ := hphi ⟨2, .guard⟩ (by simp) rfl v2 rfl _ rfl
                subst e2 e11 e12
                exact .inl ⟨rfl, gives_value (v := .pointer (some ⟨b, off + (k + 1) * 4, none⟩)) (w' := W) (by go_simp) ⟨Below.refl _ _, fun u hu => by cases hu; rfl⟩⟩
              | 14, _, rfl =>
                have e13 : v13 = _ := hphi ⟨13, .data⟩ (by simp) rfl v13 rfl _ rfl
                have e2 : v2 = _ := hphi ⟨2, .guard⟩ (by simp) rfl v2 rfl _ rfl
                subst e2 e13
                exact .inl ⟨rfl, gives_value (v := .pointer (some ⟨b, off + (k + 1) * 4, none⟩)) (w' := W) (by go_simp) ⟨Below.refl _ _, fun u hu => by cases hu; rfl⟩⟩
              | 15, _, rfl =>
                have e14 : v14 = _ := hphi ⟨14, .data⟩ (by simp) rfl v14 rfl _ rfl
                have e2 : v2 = _ := hphi ⟨2, .guard⟩ (by simp) rfl v2 rfl _ rfl
                subst e2 e14
                exact .inl ⟨rfl, gives_value (v := .string t.lab) (w' := W) (by go_simp) ⟨Below.refl _ _, fun u hu => by cases hu; rfl⟩⟩
              | 16, _, rfl =>
                have e9 : v9 = _ := hphi ⟨9, .data⟩ (by simp) rfl v9 rfl _ rfl
                have e15 : v15 = _ := hphi ⟨15, .data⟩ (by simp) rfl v15 rfl _ rfl
                have e2 : v2 = _ := hphi ⟨2, .guard⟩ (by simp) rfl v2 rfl _ rfl
                subst e2 e9 e15
                exact .inl ⟨rfl, gives_value (v := .bool true) (w' := W) (by go_simp) ⟨Below.refl _ _, fun u hu => by cases hu; rfl⟩⟩
              | 17, _, rfl =>
                have e2 : v2 = _ := hphi ⟨2, .data⟩ (by simp) rfl v2 rfl _ rfl
                have e16 : v16 = _ := hphi ⟨16, .data⟩ (by simp) rfl v16 rfl _ rfl
                subst e2 e16
                exact .inl ⟨rfl, gives_value (v := .bool true) (w' := W) (by go_simp) ⟨Below.refl _ _, fun u hu => by cases hu; rfl⟩⟩
              | 18, _, rfl =>
                have e17 : v17 = _ := hphi ⟨17, .data⟩ (by simp) rfl v17 rfl _ rfl
                subst e17
                exact .inl ⟨rfl, gives_value (v := .bool true) (w' := W) (by go_simp) ⟨Below.refl _ _, fun u hu => by cases hu; rfl⟩⟩
              | 19, _, rfl =>
                have e18 : v18 = _ := hphi ⟨18, .guard⟩ (by simp) rfl v18 rfl _ rfl
                subst e18
                exact .inr ⟨rfl, Below.refl _ _, fun u hu => by cases hu; rfl⟩
              | 20, _, rfl =>
                have e18 : v18 = _ := hphi ⟨18, .guard⟩ (by simp) rfl v18 rfl _ rfl
                subst e18
                exact .inr ⟨rfl, Below.refl _ _, fun u hu => by cases hu; rfl⟩
              | 21, _, rfl =>
                have e20 : v20 = _ := hphi ⟨20, .data⟩ (by simp) rfl v20 rfl _ rfl
                have e18 : v18 = _ := hphi ⟨18, .guard⟩ (by simp) rfl v18 rfl _ rfl
                subst e18 e20
                exact .inr ⟨rfl, Below.refl _ _, fun u hu => by cases hu; rfl⟩
              | 22, _, rfl =>
                have e18 : v18 = _ := hphi ⟨18, .guard⟩ (by simp) rfl v18 rfl _ rfl
                subst e18
                exact .inr ⟨rfl, Below.refl _ _, fun u hu => by cases hu; rfl⟩
              | 23, _, rfl =>
                have e21 : v21 = _ := hphi ⟨21, .data⟩ (by simp) rfl v21 rfl _ rfl
                have e22 : v22 = _ := hphi ⟨22, .data⟩ (by simp) rfl v22 rfl _ rfl
                have e18 : v18 = _ := hphi ⟨18, .guard⟩ (by simp) rfl v18 rfl _ rfl
                subst e18 e21 e22
                exact .inr ⟨rfl, Below.refl _ _, fun u hu => by cases hu; rfl⟩
              | 24, _, rfl =>
                have e23 : v23 = _ := hphi ⟨23, .data⟩ (by simp) rfl v23 rfl _ rfl
                have e18 : v18 = _ := hphi ⟨18, .guard⟩ (by simp) rfl v18 rfl _ rfl
                subst e18 e23
                exact .inr ⟨rfl, Below.refl _ _, fun u hu => by cases hu; rfl⟩
              | 25, _, rfl =>
                have e19 : v19 = _ := hphi ⟨19, .data⟩ (by simp) rfl v19 rfl _ rfl
                have e24 : v24 = _ := hphi ⟨24, .data⟩ (by simp) rfl v24 rfl _ rfl
                have e18 : v18 = _ := hphi ⟨18, .guard⟩ (by simp) rfl v18 rfl _ rfl
                subst e18 e19 e24
                exact .inr ⟨rfl, Below.refl _ _, fun u hu => by cases hu; rfl⟩
              | 26, _, rfl =>
                have e25 : v25 = _ := hphi ⟨25, .data⟩ (by simp) rfl v25 rfl _ rfl
                have e18 : v18 = _ := hphi ⟨18, .guard⟩ (by simp) rfl v18 rfl _ rfl
                subst e18 e25
                exact .inr ⟨rfl, Below.refl _ _, fun u hu => by cases hu; rfl⟩
              | i + 27, hi, _ => exact absurd hi (by omega)
            case tailG0 =>
              intro vs W hv hR hphi
              obtain ⟨v0, v1, v2, v3, v4, v5, v6, v7, v8, v9, v10, v11, v12, v13, v14, v15, v16, v17, v18, v19, v20, v21, v22, v23, v24, v25, v26, rfl⟩ := ls27 hv
              simp only [List.zip, List.zipWith, putAll, Act.put, List.setIfInBounds_toArray, List.set, List.drop]
              have e0 : v0 = _ := hphi 0 v0 rfl _ rfl
              have e1 : v1 = _ := hphi 1 v1 rfl _ rfl
              have e2 : v2 = _ := hphi 2 v2 rfl _ rfl
              have e3 : v3 = _ := hphi 3 v3 rfl _ rfl
              have e4 : v4 = _ := hphi 4 v4 rfl _ rfl
              have e5 : v5 = _ := hphi 5 v5 rfl _ rfl
              have e6 : v6 = _ := hphi 6 v6 rfl _ rfl
              have e7 : v7 = _ := hphi 7 v7 rfl _ rfl
              have e8 : v8 = _ := hphi 8 v8 rfl _ rfl
              have e9 : v9 = _ := hphi 9 v9 rfl _ rfl
              have e10 : v10 = _ := hphi 10 v10 rfl _ rfl
              have e11 : v11 = _ := hphi 11 v11 rfl _ rfl
              have e12 : v12 = _ := hphi 12 v12 rfl _ rfl
              have e13 : v13 = _ := hphi 13 v13 rfl _ rfl
              have e14 : v14 = _ := hphi 14 v14 rfl _ rfl
              have e15 : v15 = _ := hphi 15 v15 rfl _ rfl
              have e16 : v16 = _ := hphi 16 v16 rfl _ rfl
              have e17 : v17 = _ := hphi 17 v17 rfl _ rfl
              have e18 : v18 = _ := hphi 18 v18 rfl _ rfl
              have e19 : v19 = _ := hphi 19 v19 rfl _ rfl
              have e20 : v20 = _ := hphi 20 v20 rfl _ rfl
              have e21 : v21 = _ := hphi 21 v21 rfl _ rfl
              have e22 : v22 = _ := hphi 22 v22 rfl _ rfl
              have e23 : v23 = _ := hphi 23 v23 rfl _ rfl
              have e24 : v24 = _ := hphi 24 v24 rfl _ rfl
              have e25 : v25 = _ := hphi 25 v25 rfl _ rfl
              have e26 : v26 = _ := hphi 26 v26 rfl _ rfl
              subst e0 e1 e2 e3 e4 e5 e6 e7 e8 e9 e10 e11 e12 e13 e14 e15 e16 e17 e18 e19 e20 e21 e22 e23 e24 e25 e26
              clear hphi hv
              have HBW : Hid (Below w.heap.size w W) := HBw.out.trans (hR.mono HBw.out.size)
              clear hR
              go_wp2
              go_ret
              exact RvldEnd.no hF.out HBW.out
          | true =>
            rw [hl] at hle
            have HLE := Lib.hid hl
            clear hl
            cases rv with
            | false =>
              have hF : Hid (¬ Vld ts) := fun h => by have := HRV.out.2 (h.at_ HT.out); cases this
              go_wp2_with fail
              refine wp_region_stableGD 27 (15 :: 16 :: 17 :: 18 :: 19 :: 20 :: 21 :: 22 :: 23 :: 24 :: 25 :: 26 :: 27 :: 28 :: 29 :: 30 :: 31 :: 32 :: 33 :: 34 :: 35 :: 36 :: 37 :: 38 :: 39 :: 40 :: 41 :: []) (by kernel_rfl) (by kernel_rfl) (by kernel_rfl) (fun W => Below wr.heap.size wr W) (fun W W' => Below W.heap.size W W')
                (vPhi ((.int .i64 ((k + 1 : Nat) : Int)) :: (.bool true) :: (.bool true) :: (.pointer (some ⟨w.heap.size, 0, none⟩)) :: (.slice (some ⟨b, off, none⟩) n c) :: (.int .i64 ((k + 1 : Nat) : Int)) :: (.int .i64 (k : Int)) :: (.pointer (some ⟨b, off + k * 4, none⟩)) :: (.pointer (some ⟨b, off + k * 4, none⟩)) :: (.string pp.lab) :: (.pointer (some ⟨w.heap.size, 0, none⟩)) :: (.slice (some ⟨b, off, none⟩) n c) :: (.int .i64 ((k + 1 : Nat) : Int)) :: (.pointer (some ⟨b, off + (k + 1) * 4, none⟩)) :: (.pointer (some ⟨b, off + (k + 1) * 4, none⟩)) :: (.string t.lab) :: (.bool false) :: (.bool false) :: (.bool false) :: (.agg #[.slice (some ⟨b, off, none⟩) n c]) :: (.pointer (some ⟨w.heap.size, 0, none⟩)) :: (.slice (some ⟨b, off, none⟩) n c) :: (.int .i64 ((k + 1 : Nat) : Int)) :: (.pointer (some ⟨b, off + (k + 1) * 4, none⟩)) :: (.agg #[.string t.lab, .int .i64 t.kind, .slice t.dA t.dn t.dc, .slice t.vA t.vn t.vc]) :: (.bool false) :: (.bool true) :: [])) (fun W W' h1 h2 => h1.trans (h2.mono h1.size)) (fun i v W W' h _ => h) (Below.refl _ _).drew ?stepL0 ?tailL0
              case stepL0 =>
                intro i o vs W hi ho hv hR hphi
                obtain ⟨v0, v1, v2, v3, v4, v5, v6, v7, v8, v9, v10, v11, v12, v13, v14, v15, v16, v17, v18, v19, v20, v21, v22, v23, v24, v25, v26, rfl⟩ := ls27 hv
                simp only [List.zip, List.zipWith, putAll, Act.put, List.setIfInBounds_toArray, List.set]
                have hWz := hR.size
                have l0 := (hR.cell (p := ⟨w.heap.size, 0, none⟩) (by show w.heap.size < _; omega)).trans HGR.out
                have l1 := (hR.cell (p := ⟨b, off + (k + 1) * 4, none⟩) (by show b < _; omega)).trans HY0.out
                have l2 := (hR.cell (p := ⟨b, off + (k + 1) * 4 + 1, none⟩) (by show b < _; omega)).trans HY1.out
                have l3 := (hR.cell (p := ⟨b, off + (k + 1) * 4 + 2, none⟩) (by show b < _; omega)).trans HY2.out
                have l4 := (hR.cell (p := ⟨b, off + (k + 1) * 4 + 3, none⟩) (by show b < _; omega)).trans HY3.out
                have l5 := (hR.cell (p := ⟨b, off + k * 4, none⟩) (by show b < _; omega)).trans HP0.out
                match i, hi, ho with
                | 0, _, rfl =>
                  exact .inl ⟨rfl, gives_value (v := .int .i64 ((k + 1 : Nat) : Int)) (w' := W) (by go_simp) ⟨Below.refl _ _, fun u hu => by cases hu; rfl⟩⟩
                | 1, _, rfl =>
                  have e0 : v0 = _ := hphi ⟨0, .data⟩ (by simp) rfl v0 rfl _ rfl
                  subst e0
                  exact .inl ⟨rfl, gives_value (v := .bool true) (w' := W) (by go_simp) ⟨Below.refl _ _, fun u hu => by cases hu; rfl⟩⟩
                | 2, _, rfl =>
                  have e1 : v1 = _ := hphi ⟨1, .data⟩ (by simp) rfl v1 rfl _ rfl
                  subst e1
                  exact .inl ⟨rfl, gives_value (v := .bool true) (w' := W) (by go_simp) ⟨Below.refl _ _, fun u hu => by cases hu; rfl⟩⟩
                | 3, _, rfl =>
                  have e2 : v2 = _ := hphi ⟨2, .guard⟩ (by simp) rfl v2 rfl _ rfl
                  subst e2
                  exact .inl ⟨rfl, gives_value (v := .pointer (some ⟨w.heap.size, 0, none⟩)) (w' := W) (by go_simp) ⟨Below.refl _ _, fun u hu => by cases hu; rfl⟩⟩
                | 4, _, rfl =>
                  have e3 : v3 = _ := hphi ⟨3, .data⟩ (by simp) rfl v3 rfl _ rfl
                  have e2 : v2 = _ := hphi ⟨2, .guard⟩ (by simp) rfl v2 rfl _ rfl
                  subst e2 e3
                  exact .inl ⟨rfl, gives_value (v := .slice (some ⟨b, off, none⟩) n c) (w' := W) (by go_simp) ⟨Below.refl _ _, fun u hu => by cases hu; rfl⟩⟩
                | 5, _, rfl =>
                  have e2 : v2 = _ := hphi ⟨2, .guard⟩ (by simp) rfl v2 rfl _ rfl
                  subst e2
                  exact .inl ⟨rfl, gives_value (v := .int .i64 ((k + 1 : Nat) : Int)) (w' := W) (by go_simp) ⟨Below.refl _ _, fun u hu => by cases hu; rfl⟩⟩
                | 6, _, rfl =>
                  have e5 : v5 = _ := hphi ⟨5, .data⟩ (by simp) rfl v5 rfl _ rfl
                  have e2 : v2 = _ := hphi ⟨2, .guard⟩ (by simp) rfl v2 rfl _ rfl
                  subst e2 e5
                  exact .inl ⟨rfl, gives_value (v := .int .i64 (k : Int)) (w' := W) (by go_simp) ⟨Below.refl _ _, fun u hu => by cases hu; rfl⟩⟩
                | 7, _, rfl =>
                  have e4 : v4 = _ := hphi ⟨4, .data⟩ (by simp) rfl v4 rfl _ rfl
                  have e6 : v6 = _ := hphi ⟨6, .data⟩ (by simp) rfl v6 rfl _ rfl
                  have e2 : v2 = _ := hphi ⟨2, .guard⟩ (by simp) rfl v2 rfl _ rfl
                  subst e2 e4 e6
                  exact .inl ⟨rfl, gives_value (v := .pointer (some ⟨b, off + k * 4, none⟩)) (w' := W) (by go_simp) ⟨Below.refl _ _, fun u hu => by cases hu; rfl⟩⟩
                | 8, _, rfl =>
                  have e7 : v7 = _ := hphi ⟨7, .data⟩ (by simp) rfl v7 rfl _ rfl
                  have e2 : v2 = _ := hphi ⟨2, .guard⟩ (by simp) rfl v2 rfl _ rfl
                  subst e2 e7
                  exact .inl ⟨rfl, gives_value (v := .pointer (some ⟨b, off + k * 4, none⟩)) (w' := W) (by go_simp) ⟨Below.refl _ _, fun u hu => by cases hu; rfl⟩⟩
                | 9, _, rfl =>
                  have e8 : v8 = _ := hphi ⟨8, .data⟩ (by simp) rfl v8 rfl _ rfl
                  have e2 : v2 = _ := hphi ⟨2, .guard⟩ (by simp) rfl v2 rfl _ rfl
                  subst e2 e8
                  exact .inl ⟨rfl, gives_value (v := .string pp.lab) (w' := W) (by go_simp) ⟨Below.refl _ _, fun u hu => by cases hu; rfl⟩⟩
                | 10, _, rfl =>
                  have e2 : v2 = _ := hphi ⟨2, .guard⟩ (by simp) rfl v2 rfl _ rfl
                  subst e2
                  exact .inl ⟨rfl, gives_value (v := .pointer (some ⟨w.heap.size, 0, none⟩)) (w' := W) (by go_simp) ⟨Below.refl _ _, fun u hu => by cases hu; rfl⟩⟩
                | 11, _, rfl =>
                  have e10 : v10 = _ := hphi ⟨10, .data⟩ (by simp) rfl v10 rfl _ rfl
                  have e2 : v2 = _ := hphi ⟨2, .guard⟩ (by simp) rfl v2 rfl _ rfl
                  subst e2 e10
                  exact .inl ⟨rfl, gives_value (v := .slice (some ⟨b, off, none⟩) n c) (w' := W) (by go_simp) ⟨Below.refl _ _, fun u hu => by cases hu; rfl⟩⟩
                | 12, _, rfl =>
                  have e2 : v2 = _ := hphi ⟨2, .guard⟩ (by simp) rfl v2 rfl _ rfl
                  subst e2
                  exact .inl ⟨rfl, gives_value (v := .int .i64 ((k + 1 : Nat) : Int)) (w' := W) (by go_simp) ⟨Below.refl _ _, fun u hu => by cases hu; rfl⟩⟩
                | 13, _, rfl =>
                  have e11 : v11 = _ := hphi ⟨11, .data⟩ (by simp) rfl v11 rfl _ rfl
                  have e12 : v12 = _ := hphi ⟨12, .data⟩ (by simp) rfl v12 rfl _ rfl
                  have e2 : v2 = _ := hphi ⟨2, .guard⟩ (by simp) rfl v2 rfl _ rfl
                  subst e2 e11 e12
                  exact .inl ⟨rfl, gives_value (v := .pointer (some ⟨b, off + (k + 1) * 4, none⟩)) (w' := W) (by go_simp) ⟨Below.refl _ _, fun u hu => by cases hu; rfl⟩⟩
                | 14, _, rfl =>
                  have e13 : v13 = _ := hphi ⟨13, .data⟩ (by simp) rfl v13 rfl _ rfl
                  have e2 : v2 = _ := hphi ⟨2, .guard⟩ (by simp) rfl v2 rfl _ rfl
                  subst e2 e13
                  exact .inl ⟨rfl, gives_value (v := .pointer (some ⟨b, off + (k + 1) * 4, none⟩)) (w' := W) (by go_simp) ⟨Below.refl _ _, fun u hu => by cases hu; rfl⟩⟩
                | 15, _, rfl =>
                  have e14 : v14 = _ := hphi ⟨14, .data⟩ (by simp) rfl v14 rfl _ rfl
                  have e2 : v2 = _ := hphi ⟨2, .guard⟩ (by simp) rfl v2 rfl _ rfl
                  subst e2 e14
                  exact .inl ⟨rfl, gives_value (v := .string t.lab) (w' := W) (by go_simp) ⟨Below.refl _ _, fun u hu => by cases hu; rfl⟩⟩
                | 16, _, rfl =>
                  have e9 : v9 = _ := hphi ⟨9, .data⟩ (by simp) rfl v9 rfl _ rfl
                  have e15 : v15 = _ := hphi ⟨15, .data⟩ (by simp) rfl v15 rfl _ rfl
                  have e2 : v2 = _ := hphi ⟨2, .guard⟩ (by simp) rfl v2 rfl _ rfl
                  subst e2 e9 e15
                  exact .inl ⟨rfl, gives_value (v := .bool false) (w' := W) (by go_simp) ⟨Below.refl _ _, fun u hu => by cases hu; rfl⟩⟩
                | 17, _, rfl =>
                  have e2 : v2 = _ := hphi ⟨2, .data⟩ (by simp) rfl v2 rfl _ rfl
                  have e16 : v16 = _ := hphi ⟨16, .data⟩ (by simp) rfl v16 rfl _ rfl
                  subst e2 e16
                  exact .inl ⟨rfl, gives_value (v := .bool false) (w' := W) (by go_simp) ⟨Below.refl _ _, fun u hu => by cases hu; rfl⟩⟩
                | 18, _, rfl =>
                  have e17 : v17 = _ := hphi ⟨17, .data⟩ (by simp) rfl v17 rfl _ rfl
                  subst e17
                  exact .inl ⟨rfl, gives_value (v := .bool false) (w' := W) (by go_simp) ⟨Below.refl _ _, fun u hu => by cases hu; rfl⟩⟩
                | 19, _, rfl =>
                  have e18 : v18 = _ := hphi ⟨18, .guard⟩ (by simp) rfl v18 rfl _ rfl
                  subst e18
                  exact .inl ⟨rfl, gives_value (v := .agg #[.slice (some ⟨b, off, none⟩) n c]) (w' := W) (by go_simp) ⟨Below.refl _ _, fun u hu => by cases hu; rfl⟩⟩
                | 20, _, rfl =>
                  have e18 : v18 = _ := hphi ⟨18, .guard⟩ (by simp) rfl v18 rfl _ rfl
                  subst e18
                  exact .inl ⟨rfl, gives_value (v := .pointer (some ⟨w.heap.size, 0, none⟩)) (w' := W) (by go_simp) ⟨Below.refl _ _, fun u hu => by cases hu; rfl⟩⟩
                | 21, _, rfl =>
                  have e20 : v20 = _ := hphi ⟨20, .data⟩ (by simp) rfl v20 rfl _ rfl
                  have e18 : v18 = _ := hphi ⟨18, .guard⟩ (by simp) rfl v18 rfl _ rfl
                  subst e18 e20
                  exact .inl ⟨rfl, gives_value (v := .slice (some ⟨b, off, none⟩) n c) (w' := W) (by go_simp) ⟨Below.refl _ _, fun u hu => by cases hu; rfl⟩⟩
                | 22, _, rfl =>
                  have e18 : v18 = _ := hphi ⟨18, .guard⟩ (by simp) rfl v18 rfl _ rfl
                  subst e18
                  exact .inl ⟨rfl, gives_value (v := .int .i64 ((k + 1 : Nat) : Int)) (w' := W) (by go_simp) ⟨Below.refl _ _, fun u hu => by cases hu; rfl⟩⟩
                | 23, _, rfl =>
                  have e21 : v21 = _ := hphi ⟨21, .data⟩ (by simp) rfl v21 rfl _ rfl
                  have e22 : v22 = _ := hphi ⟨22, .data⟩ (by simp) rfl v22 rfl _ rfl
                  have e18 : v18 = _ := hphi ⟨18, .guard⟩ (by simp) rfl v18 rfl _ rfl
                  subst e18 e21 e22
                  exact .inl ⟨rfl, gives_value (v := .pointer (some ⟨b, off + (k + 1) * 4, none⟩)) (w' := W) (by go_simp) ⟨Below.refl _ _, fun u hu => by cases hu; rfl⟩⟩
                | 24, _, rfl =>
                  have e23 : v23 = _ := hphi ⟨23, .data⟩ (by simp) rfl v23 rfl _ rfl
                  have e18 : v18 = _ := hphi ⟨18, .guard⟩ (by simp) rfl v18 rfl _ rfl
                  subst e18 e23
                  exact .inl ⟨rfl, gives_value (v := .agg #[.string t.lab, .int .i64 t.kind, .slice t.dA t.dn t.dc, .slice t.vA t.vn t.vc]) (w' := W) (by go_simp) ⟨Below.refl _ _, fun u hu => by cases hu; rfl⟩⟩
                | 25, _, rfl =>
                  have e19 : v19 = _ := hphi ⟨19, .data⟩ (by simp) rfl v19 rfl _ rfl
                  have e24 : v24 = _ := hphi ⟨24, .data⟩ (by simp) rfl v24 rfl _ rfl
                  have e18 : v18 = _ := hphi ⟨18, .guard⟩ (by simp) rfl v18 rfl _ rfl
                  subst e18 e19 e24
                  refine .inl ⟨rfl, gives_call (f := 71) (args := #[.agg #[.slice (some ⟨b, off, none⟩) n c], .agg #[.string t.lab, .int .i64 t.kind, .slice t.dA t.dn t.dc, .slice t.vA t.vn t.vc]]) (by go_simp) ((HVC.out W hR).mono ?_)⟩
                  rintro e W' ⟨rfl, hb'⟩
                  exact ⟨_, rfl, hb', fun u hu => by cases hu; rfl⟩
                | 26, _, rfl =>
                  have e25 : v25 = _ := hphi ⟨25, .data⟩ (by simp) rfl v25 rfl _ rfl
                  have e18 : v18 = _ := hphi ⟨18, .guard⟩ (by simp) rfl v18 rfl _ rfl
                  subst e18 e25
                  exact .inl ⟨rfl, gives_value (v := .bool true) (w' := W) (by go_simp) ⟨Below.refl _ _, fun u hu => by cases hu; rfl⟩⟩
                | i + 27, hi, _ => exact absurd hi (by omega)
              case tailL0 =>
                intro vs W hv hR hphi
                obtain ⟨v0, v1, v2, v3, v4, v5, v6, v7, v8, v9, v10, v11, v12, v13, v14, v15, v16, v17, v18, v19, v20, v21, v22, v23, v24, v25, v26, rfl⟩ := ls27 hv
                simp only [List.zip, List.zipWith, putAll, Act.put, List.setIfInBounds_toArray, List.set, List.drop]
                have e0 : v0 = _ := hphi 0 v0 rfl _ rfl
                have e1 : v1 = _ := hphi 1 v1 rfl _ rfl
                have e2 : v2 = _ := hphi 2 v2 rfl _ rfl
                have e3 : v3 = _ := hphi 3 v3 rfl _ rfl
                have e4 : v4 = _ := hphi 4 v4 rfl _ rfl
                have e5 : v5 = _ := hphi 5 v5 rfl _ rfl
                have e6 : v6 = _ := hphi 6 v6 rfl _ rfl
                have e7 : v7 = _ := hphi 7 v7 rfl _ rfl
                have e8 : v8 = _ := hphi 8 v8 rfl _ rfl
                have e9 : v9 = _ := hphi 9 v9 rfl _ rfl
                have e10 : v10 = _ := hphi 10 v10 rfl _ rfl
                have e11 : v11 = _ := hphi 11 v11 rfl _ rfl
                have e12 : v12 = _ := hphi 12 v12 rfl _ rfl
                have e13 : v13 = _ := hphi 13 v13 rfl _ rfl
                have e14 : v14 = _ := hphi 14 v14 rfl _ rfl
                have e15 : v15 = _ := hphi 15 v15 rfl _ rfl
                have e16 : v16 = _ := hphi 16 v16 rfl _ rfl
                have e17 : v17 = _ := hphi 17 v17 rfl _ rfl
                have e18 : v18 = _ := hphi 18 v18 rfl _ rfl
                have e19 : v19 = _ := hphi 19 v19 rfl _ rfl
                have e20 : v20 = _ := hphi 20 v20 rfl _ rfl
                have e21 : v21 = _ := hphi 21 v21 rfl _ rfl
                have e22 : v22 = _ := hphi 22 v22 rfl _ rfl
                have e23 : v23 = _ := hphi 23 v23 rfl _ rfl
                have e24 : v24 = _ := hphi 24 v24 rfl _ rfl
                have e25 : v25 = _ := hphi 25 v25 rfl _ rfl
                have e26 : v26 = _ := hphi 26 v26 rfl _ rfl
                subst e0 e1 e2 e3 e4 e5 e6 e7 e8 e9 e10 e11 e12 e13 e14 e15 e16 e17 e18 e19 e20 e21 e22 e23 e24 e25 e26
                clear hphi hv
                have HBW : Hid (Below w.heap.size w W) := HBw.out.trans (hR.mono HBw.out.size)
                clear hR
                go_wp2
                go_ret
                exact RvldEnd.no hF.out HBW.out
            | true =>
              have HU2 : Hid (Upto ts (k + 1 + 1)) := hU.out.step HT.out (HRV.out.1 rfl) (fun p _ hp => by rw [Nat.add_sub_cancel, HPP.out] at hp; cases hp; exact HLE.out)
              go_wp2_with fail
              refine wp_region_stableGD 27 (15 :: 16 :: 17 :: 18 :: 19 :: 20 :: 21 :: 22 :: 23 :: 24 :: 25 :: 26 :: 27 :: 28 :: 29 :: 30 :: 31 :: 32 :: 33 :: 34 :: 35 :: 36 :: 37 :: 38 :: 39 :: 40 :: 41 :: []) (by kernel_rfl) (by kernel_rfl) (by kernel_rfl) (fun W => Below wr.heap.size wr W) (fun W W' => Below W.heap.size W W')
                (vPhi ((.int .i64 ((k + 1 : Nat) : Int)) :: (.bool true) :: (.bool true) :: (.pointer (some ⟨w.heap.size, 0, none⟩)) :: (.slice (some ⟨b, off, none⟩) n c) :: (.int .i64 ((k + 1 : Nat) : Int)) :: (.int .i64 (k : Int)) :: (.pointer (some ⟨b, off + k * 4, none⟩)) :: (.pointer (some ⟨b, off + k * 4, none⟩)) :: (.string pp.lab) :: (.pointer (some ⟨w.heap.size, 0, none⟩)) :: (.slice (some ⟨b, off, none⟩) n c) :: (.int .i64 ((k + 1 : Nat) : Int)) :: (.pointer (some ⟨b, off + (k + 1) * 4, none⟩)) :: (.pointer (some ⟨b, off + (k + 1) * 4, none⟩)) :: (.string t.lab) :: (.bool false) :: (.bool false) :: (.bool false) :: (.agg #[.slice (some ⟨b, off, none⟩) n c]) :: (.pointer (some ⟨w.heap.size, 0, none⟩)) :: (.slice (some ⟨b, off, none⟩) n c) :: (.int .i64 ((k + 1 : Nat) : Int)) :: (.pointer (some ⟨b, off + (k + 1) * 4, none⟩)) :: (.agg #[.string t.lab, .int .i64 t.kind, .slice t.dA t.dn t.dc, .slice t.vA t.vn t.vc]) :: (.bool true) :: (.bool false) :: [])) (fun W W' h1 h2 => h1.trans (h2.mono h1.size)) (fun i v W W' h _ => h) (Below.refl _ _).drew ?stepL1 ?tailL1
              case stepL1 =>
                intro i o vs W hi ho hv hR hphi
                obtain ⟨v0, v1, v2, v3, v4, v5, v6, v7, v8, v9, v10, v11, v12, v13, v14, v15, v16, v17, v18, v19, v20, v21, v22, v23, v24, v25, v26, rfl⟩ := ls27 hv
                simp only [List.zip, List.zipWith, putAll, Act.put, List.setIfInBounds_toArray, List.set]
                have hWz := hR.size
                have l0 := (hR.cell (p := ⟨w.heap.size, 0, none⟩) (by show w.heap.size < _; omega)).trans HGR.out
                have l1 := (hR.cell (p := ⟨b, off + (k + 1) * 4, none⟩) (by show b < _; omega)).trans HY0.out
                have l2 := (hR.cell (p := ⟨b, off + (k + 1) * 4 + 1, none⟩) (by show b < _; omega)).trans HY1.out
                have l3 := (hR.cell (p := ⟨b, off + (k + 1) * 4 + 2, none⟩) (by show b < _; omega)).trans HY2.out
                have l4 := (hR.cell (p := ⟨b, off + (k + 1) * 4 + 3, none⟩) (by show b < _; omega)).trans HY3.out
                have l5 := (hR.cell (p := ⟨b, off + k * 4, none⟩) (by show b < _; omega)).trans HP0.out
                match i, hi, ho with
                | 0, _, rfl =>
                  exact .inl ⟨rfl, gives_value (v := .int .i64 ((k + 1 : Nat) : Int)) (w' := W) (by go_simp) ⟨Below.refl _ _, fun u hu => by cases hu; rfl⟩⟩
                | 1, _, rfl =>
                  have e0 : v0 = _ := hphi ⟨0, .data⟩ (by simp) rfl v0 rfl _ rfl
                  subst e0
                  exact .inl ⟨rfl, gives_value (v := .bool true) (w' := W) (by go_simp) ⟨Below.refl _ _, fun u hu => by cases hu; rfl⟩⟩
                | 2, _, rfl =>
                  have e1 : v1 = _ := hphi ⟨1, .data⟩ (by simp) rfl v1 rfl _ rfl
                  subst e1
                  exact .inl ⟨rfl, gives_value (v := .bool true) (w' := W) (by go_simp) ⟨Below.refl _ _, fun u hu => by cases hu; rfl⟩⟩
                | 3, _, rfl =>
                  have e2 : v2 = _ := hphi ⟨2, .guard⟩ (by simp) rfl v2 rfl _ rfl
                  subst e2
                  exact .inl ⟨rfl, gives_value (v := .pointer (some ⟨w.heap.size, 0, none⟩)) (w' := W) (by go_simp) ⟨Below.refl _ _, fun u hu => by cases hu; rfl⟩⟩
                | 4, _, rfl =>
                  have e3 : v3 = _ := hphi ⟨3, .data⟩ (by simp) rfl v3 rfl _ rfl
                  have e2 : v2 = _ := hphi ⟨2, .guard⟩ (by simp) rfl v2 rfl _ rfl
                  subst e2 e3
                  exact .inl ⟨rfl, gives_value (v := .slice (some ⟨b, off, none⟩) n c) (w' := W) (by go_simp) ⟨Below.refl _ _, fun u hu => by cases hu; rfl⟩⟩
                | 5, _, rfl =>
                  have e2 : v2 = _ := hphi ⟨2, .guard⟩ (by simp) rfl v2 rfl _ rfl
                  subst e2
                  exact .inl ⟨rfl, gives_value (v := .int .i64 ((k + 1 : Nat) : Int)) (w' := W) (by go_simp) ⟨Below.refl _ _, fun u hu => by cases hu; rfl⟩⟩
                | 6, _, rfl =>
                  have e5 : v5 = _ := hphi ⟨5, .data⟩ (by simp) rfl v5 rfl _ rfl
                  have e2 : v2 = _ := hphi ⟨2, .guard⟩ (by simp) rfl v2 rfl _ rfl
                  subst e2 e5
                  exact .inl ⟨rfl, gives_value (v := .int .i64 (k : Int)) (w' := W) (by go_simp) ⟨Below.refl _ _, fun u hu => by cases hu; rfl⟩⟩
                | 7, _, rfl =>
                  have e4 : v4 = _ := hphi ⟨4, .data⟩ (by simp) rfl v4 rfl _ rfl
                  have e6 : v6 = _ := hphi ⟨6, .data⟩ (by simp) rfl v6 rfl _ rfl
                  have e2 : v2 = _ := hphi ⟨2, .guard⟩ (by simp) rfl v2 rfl _ rfl
                  subst e2 e4 e6
                  exact .inl ⟨rfl, gives_value (v := .pointer (some ⟨b, off + k * 4, none⟩)) (w' := W) (by go_simp) ⟨Below.refl _ _, fun u hu => by cases hu; rfl⟩⟩
                | 8, _, rfl =>
                  have e7 : v7 = _ := hphi ⟨7, .data⟩ (by simp) rfl v7 rfl _ rfl
                  have e2 : v2 = _ := hphi ⟨2, .guard⟩ (by simp) rfl v2 rfl _ rfl
                  subst e2 e7
                  exact .inl ⟨rfl, gives_value (v := .pointer (some ⟨b, off + k * 4, none⟩)) (w' := W) (by go_simp) ⟨Below.refl _ _, fun u hu => by cases hu; rfl⟩⟩
                | 9, _, rfl =>
                  have e8 : v8 = _ := hphi ⟨8, .data⟩ (by simp) rfl v8 rfl _ rfl
                  have e2 : v2 = _ := hphi ⟨2, .guard⟩ (by simp) rfl v2 rfl _ rfl
                  subst e2 e8
                  exact .inl ⟨rfl, gives_value (v := .string pp.lab) (w' := W) (by go_simp) ⟨Below.refl _ _, fun u hu => by cases hu; rfl⟩⟩
                | 10, _, rfl =>
                  have e2 : v2 = _ := hphi ⟨2, .guard⟩ (by simp) rfl v2 rfl _ rfl
                  subst e2
                  exact .inl ⟨rfl, gives_value (v := .pointer (some ⟨w.heap.size, 0, none⟩)) (w' := W) (by go_simp) ⟨Below.refl _ _, fun u hu => by cases hu; rfl⟩⟩
                | 11, _, rfl =>
                  have e10 : v10 = _ := hphi ⟨10, .data⟩ (by simp) rfl v10 rfl _ rfl
                  have e2 : v2 = _ := hphi ⟨2, .guard⟩ (by simp) rfl v2 rfl _ rfl
                  subst e2 e10
                  exact .inl ⟨rfl, gives_value (v := .slice (some ⟨b, off, none⟩) n c) (w' := W) (by go_simp) ⟨Below.refl _ _, fun u hu => by cases hu; rfl⟩⟩
                | 12, _, rfl =>
                  have e2 : v2 = _ := hphi ⟨2, .guard⟩ (by simp) rfl v2 rfl _ rfl
                  subst e2
                  exact .inl ⟨rfl, gives_value (v := .int .i64 ((k + 1 : Nat) : Int)) (w' := W) (by go_simp) ⟨Below.refl _ _, fun u hu => by cases hu; rfl⟩⟩
                | 13, _, rfl =>
                  have e11 : v11 = _ := hphi ⟨11, .data⟩ (by simp) rfl v11 rfl _ rfl
                  have e12 : v12 = _ := hphi ⟨12, .data⟩ (by simp) rfl v12 rfl _ rfl
                  have e2 : v2 = _ := hphi ⟨2, .guard⟩ (by simp) rfl v2 rfl _ rfl
                  subst e2 e11 e12
                  exact .inl ⟨rfl, gives_value (v := .pointer (some ⟨b, off + (k + 1) * 4, none⟩)) (w' := W) (by go_simp) ⟨Below.refl _ _, fun u hu => by cases hu; rfl⟩⟩
                | 14, _, rfl =>
                  have e13 : v13 = _ := hphi ⟨13, .data⟩ (by simp) rfl v13 rfl _ rfl
                  have e2 : v2 = _ := hphi ⟨2, .guard⟩ (by simp) rfl v2 rfl _ rfl
                  subst e2 e13
                  exact .inl ⟨rfl, gives_value (v := .pointer (some ⟨b, off + (k + 1) * 4, none⟩)) (w' := W) (by go_simp) ⟨Below.refl _ _, fun u hu => by cases hu; rfl⟩⟩
                | 15, _, rfl =>
                  have e14 : v14 = _ := hphi ⟨14, .data⟩ (by simp) rfl v14 rfl _ rfl
                  have e2 : v2 = _ := hphi ⟨2, .guard⟩ (by simp) rfl v2 rfl _ rfl
                  subst e2 e14
                  exact .inl ⟨rfl, gives_value (v := .string t.lab) (w' := W) (by go_simp) ⟨Below.refl _ _, fun u hu => by cases hu; rfl⟩⟩
                | 16, _, rfl =>
                  have e9 : v9 = _ := hphi ⟨9, .data⟩ (by simp) rfl v9 rfl _ rfl
                  have e15 : v15 = _ := hphi ⟨15, .data⟩ (by simp) rfl v15 rfl _ rfl
                  have e2 : v2 = _ := hphi ⟨2, .guard⟩ (by simp) rfl v2 rfl _ rfl
                  subst e2 e9 e15
                  exact .inl ⟨rfl, gives_value (v := .bool false) (w' := W) (by go_simp) ⟨Below.refl _ _, fun u hu => by cases hu; rfl⟩⟩
                | 17, _, rfl =>
                  have e2 : v2 = _ := hphi ⟨2, .data⟩ (by simp) rfl v2 rfl _ rfl
                  have e16 : v16 = _ := hphi ⟨16, .data⟩ (by simp) rfl v16 rfl _ rfl
                  subst e2 e16
                  exact .inl ⟨rfl, gives_value (v := .bool false) (w' := W) (by go_simp) ⟨Below.refl _ _, fun u hu => by cases hu; rfl⟩⟩
                | 18, _, rfl =>
                  have e17 : v17 = _ := hphi ⟨17, .data⟩ (by simp) rfl v17 rfl _ rfl
                  subst e17
                  exact .inl ⟨rfl, gives_value (v := .bool false) (w' := W) (by go_simp) ⟨Below.refl _ _, fun u hu => by cases hu; rfl⟩⟩
                | 19, _, rfl =>
                  have e18 : v18 = _ := hphi ⟨18, .guard⟩ (by simp) rfl v18 rfl _ rfl
                  subst e18
                  exact .inl ⟨rfl, gives_value (v := .agg #[.slice (some ⟨b, off, none⟩) n c]) (w' := W) (by go_simp) ⟨Below.refl _ _, fun u hu => by cases hu; rfl⟩⟩
                | 20, _, rfl =>
                  have e18 : v18 = _ := hphi ⟨18, .guard⟩ (by simp) rfl v18 rfl _ rfl
                  subst e18
                  exact .inl ⟨rfl, gives_value (v := .pointer (some ⟨w.heap.size, 0, none⟩)) (w' := W) (by go_simp) ⟨Below.refl _ _, fun u hu => by cases hu; rfl⟩⟩
                | 21, _, rfl =>
                  have e20 : v20 = _ := hphi ⟨20, .data⟩ (by simp) rfl v20 rfl _ rfl
                  have e18 : v18 = _ := hphi ⟨18, .guard⟩ (by simp) rfl v18 rfl _ rfl
                  subst e18 e20
                  exact .inl ⟨rfl, gives_value (v := .slice (some ⟨b, off, none⟩) n c) (w' := W) (by go_simp) ⟨Below.refl _ _, fun u hu => by cases hu; rfl⟩⟩
                | 22, _, rfl =>
                  have e18 : v18 = _ := hphi ⟨18, .guard⟩ (by simp) rfl v18 rfl _ rfl
                  subst e18
                  exact .inl ⟨rfl, gives_value (v := .int .i64 ((k + 1 : Nat) : Int)) (w' := W) (by go_simp) ⟨Below.refl _ _, fun u hu => by cases hu; rfl⟩⟩
                | 23, _, rfl =>
                  have e21 : v21 = _ := hphi ⟨21, .data⟩ (by simp) rfl v21 rfl _ rfl
                  have e22 : v22 = _ := hphi ⟨22, .data⟩ (by simp) rfl v22 rfl _ rfl
                  have e18 : v18 = _ := hphi ⟨18, .guard⟩ (by simp) rfl v18 rfl _ rfl
                  subst e18 e21 e22
                  exact .inl ⟨rfl, gives_value (v := .pointer (some ⟨b, off + (k + 1) * 4, none⟩)) (w' := W) (by go_simp) ⟨Below.refl _ _, fun u hu => by cases hu; rfl⟩⟩
                | 24, _, rfl =>
                  have e23 : v23 = _ := hphi ⟨23, .data⟩ (by simp) rfl v23 rfl _ rfl
                  have e18 : v18 = _ := hphi ⟨18, .guard⟩ (by simp) rfl v18 rfl _ rfl
                  subst e18 e23
                  exact .inl ⟨rfl, gives_value (v := .agg #[.string t.lab, .int .i64 t.kind, .slice t.dA t.dn t.dc, .slice t.vA t.vn t.vc]) (w' := W) (by go_simp) ⟨Below.refl _ _, fun u hu => by cases hu; rfl⟩⟩
                | 25, _, rfl =>
                  have e19 : v19 = _ := hphi ⟨19, .data⟩ (by simp) rfl v19 rfl _ rfl
                  have e24 : v24 = _ := hphi ⟨24, .data⟩ (by simp) rfl v24 rfl _ rfl
                  have e18 : v18 = _ := hphi ⟨18, .guard⟩ (by simp) rfl v18 rfl _ rfl
                  subst e18 e19 e24
                  refine .inl ⟨rfl, gives_call (f := 71) (args := #[.agg #[.slice (some ⟨b, off, none⟩) n c], .agg #[.string t.lab, .int .i64 t.kind, .slice t.dA t.dn t.dc, .slice t.vA t.vn t.vc]]) (by go_simp) ((HVC.out W hR).mono ?_)⟩
                  rintro e W' ⟨rfl, hb'⟩
                  exact ⟨_, rfl, hb', fun u hu => by cases hu; rfl⟩
                | 26, _, rfl =>
                  have e25 : v25 = _ := hphi ⟨25, .data⟩ (by simp) rfl v25 rfl _ rfl
                  have e18 : v18 = _ := hphi ⟨18, .guard⟩ (by simp) rfl v18 rfl _ rfl
                  subst e18 e25
                  exact .inl ⟨rfl, gives_value (v := .bool false) (w' := W) (by go_simp) ⟨Below.refl _ _, fun u hu => by cases hu; rfl⟩⟩
                | i + 27, hi, _ => exact absurd hi (by omega)
              case tailL1 =>
                intro vs W hv hR hphi
                obtain ⟨v0, v1, v2, v3, v4, v5, v6, v7, v8, v9, v10, v11, v12, v13, v14, v15, v16, v17, v18, v19, v20, v21, v22, v23, v24, v25, v26, rfl⟩ := ls27 hv
                simp only [List.zip, List.zipWith, putAll, Act.put, List.setIfInBounds_toArray, List.set, List.drop]
                have e0 : v0 = _ := hphi 0 v0 rfl _ rfl
                have e1 : v1 = _ := hphi 1 v1 rfl _ rfl
                have e2 : v2 = _ := hphi 2 v2 rfl _ rfl
                have e3 : v3 = _ := hphi 3 v3 rfl _ rfl
                have e4 : v4 = _ := hphi 4 v4 rfl _ rfl
                have e5 : v5 = _ := hphi 5 v5 rfl _ rfl
                have e6 : v6 = _ := hphi 6 v6 rfl _ rfl
                have e7 : v7 = _ := hphi 7 v7 rfl _ rfl
                have e8 : v8 = _ := hphi 8 v8 rfl _ rfl
                have e9 : v9 = _ := hphi 9 v9 rfl _ rfl
                have e10 : v10 = _ := hphi 10 v10 rfl _ rfl
                have e11 : v11 = _ := hphi 11 v11 rfl _ rfl
                have e12 : v12 = _ := hphi 12 v12 rfl _ rfl
                have e13 : v13 = _ := hphi 13 v13 rfl _ rfl
                have e14 : v14 = _ := hphi 14 v14 rfl _ rfl
                have e15 : v15 = _ := hphi 15 v15 rfl _ rfl
                have e16 : v16 = _ := hphi 16 v16 rfl _ rfl
                have e17 : v17 = _ := hphi 17 v17 rfl _ rfl
                have e18 : v18 = _ := hphi 18 v18 rfl _ rfl
                have e19 : v19 = _ := hphi 19 v19 rfl _ rfl
                have e20 : v20 = _ := hphi 20 v20 rfl _ rfl
                have e21 : v21 = _ := hphi 21 v21 rfl _ rfl
                have e22 : v22 = _ := hphi 22 v22 rfl _ rfl
                have e23 : v23 = _ := hphi 23 v23 rfl _ rfl
                have e24 : v24 = _ := hphi 24 v24 rfl _ rfl
                have e25 : v25 = _ := hphi 25 v25 rfl _ rfl
                have e26 : v26 = _ := hphi 26 v26 rfl _ rfl
                subst e0 e1 e2 e3 e4 e5 e6 e7 e8 e9 e10 e11 e12 e13 e14 e15 e16 e17 e18 e19 e20 e21 e22 e23 e24 e25 e26
                clear hphi hv
                have HBW : Hid (Below W0.heap.size W0 W) := hBel.out.trans (hR.mono hwr)
                clear hR
                go_wp2
                go_roundw
                case rel => exact ⟨k + 1 + 1, by omega, by go_num, HU2.out, HBW.out⟩
                case measure => simp [intOf]; omega
      · have hlz2 : ¬ (k : Int) < (n : Int) := by omega
        have HU2 : Hid (Upto ts ts.length) := by
          have h1 := hU.out
          have h2 : k = ts.length := by have := HTL.out; omega
          rwa [h2] at h1
        have HCY := Lib.hid (rcycle_any A n c B ts wr (H0.out.below HBw.out hB) (fun t ht => (HOK.out t ht).below HBw.out hB) (Nat.le_trans hB HBw.out.size) (by omega))
        go_wp2_with (go_at_call 21; refine HCY.out.mono ?_; rintro e w2 ⟨A', m, c', l, rfl, hS, hmc, hcm', hC, hb2⟩; refine halt_ ?_)
        refine unhalt ?_
        have HLm : Hid (l.length = m) := by have := hS.1; rw [strs_len] at this; show _ = _; omega
        have HC := Lib.hid hC.empty
        have HB2 : Hid (Below w.heap.size w w2) := HBw.out.trans (hb2.mono HBw.out.size)
        have hmm : m ≤ 9223372036854775807 := by unfold maxLen at hcm'; omega
        clear hS hC hb2 HCY
        have HV : Hid (((m : Int) == 0) = true ↔ Vld ts) := by
          show _ ↔ _
          rw [beq_iff_eq]
          constructor
          · intro h
            exact HU2.out.vld (by rw [HTL.out]; omega) (HC.out.1 (List.eq_nil_of_length_eq_zero (by rw [HLm.out]; omega)))
          · intro h
            have := HC.out.2 h.free
            rw [this] at HLm
            have := HLm.out
            simp at this; omega
        go_wp2
        go_ret
        exact ⟨_, rfl, HV.out, HB2.out⟩
end Go.Proofs.YtddlohbhchjjhaaGreatDoor

namespace Go.Proofs.YtddlohbhchjjhaaGreatDoor
open Go.RowKit Go.Maps

end Go.Proofs.YtddlohbhchjjhaaGreatDoor

namespace Go.Proofs.YtddlohbhchjjhaaGreatDoor
open Go.RowKit Go.Maps

end Go.Proofs.YtddlohbhchjjhaaGreatDoor

namespace Go.Proofs.YtddlohbhchjjhaaGreatDoor
open Go.RowKit Go.Maps

def AffEnd (ts : List Tg) (ps : List ByteArray) (w : World) (e : Ending) (w' : World) : Prop :=
  ∃ A m c l, e = .returned (.slice A m c) ∧ Sl w' w'.heap.size 1 A m (strs l) ∧ m ≤ c ∧ c ≤ maxLen ∧ AffR ts ps l ∧ Below w.heap.size w w'
theorem lab_size {s : ByteArray} (h : labB s = true) : s.size ≤ 90 := by
  unfold labB labL at h
  rw [Bool.and_eq_true, decide_eq_true_iff] at h
  rw [size_len]; exact h.1

end Go.Proofs.YtddlohbhchjjhaaGreatDoor
