/-
  Lemmas: cordwoodref02.Same, partial.Deepen. cordwoodref14.Greater. PartialGrowth: the law. The arguments that come in (law14): two scopes.
-/
import Derived.Test.YtlcecobipgmafaaGreatDoorP14
import Derived.Test.YtlcecobipgmafaaGreatDoorP12
import Derived.Test.YtlcecobipgmafaaGreatDoorP9
import Derived.Test.YtlcecobipgmafaaGreatDoorP7
import Derived.Test.YtlcecobipgmafaaGreatDoorP15

namespace Go.Proofs.YtlcecobipgmafaaGreatDoor
open Go.RowKit Go.Maps

set_option maxRecDepth 100000 in
set_option maxHeartbeats 1000000 in
theorem sameDg_any (A0 A1 : Option Addr) (n0 c0 n1 c1 B : Nat) (rs qs : List Dig) (w : World) (h0 : Sl w B 2 A0 n0 (flat dgC rs)) (h1 : Sl w B 2 A1 n1 (flat dgC qs)) (m0 : n0 ≤ maxLen) :
    Calls Tryz.prog 13 #[.slice A0 n0 c0, .slice A1 n1 c1] w fun e w' => e = .returned (.bool (decide (rs = qs))) ∧ ∃ k, w' = w.drewN k := by
  unfold maxLen at m0
  have HL0 := Lib.hid (h0.len dgC_len (by omega))
  have HL1 := Lib.hid (h1.len dgC_len (by omega))
  have H0 := Lib.hid h0; have H1 := Lib.hid h1; clear h0 h1
  have hM : Hid (decide (rs = qs) = true ↔ rs = qs) := decide_eq_true_iff
  generalize decide (rs = qs) = mb at *
  by_cases hn : n0 = n1
  · subst hn
    go_enter Tryz.func13, Tryz.ntmps13
    go_wp2
    go_loopw [5] (fun i wr => ∃ k nq : Nat, k ≤ n0 ∧ i = .int .i64 k ∧ wr = w.drewN nq ∧ Hid (rs.take k = qs.take k)) (fun i _ => n0 - (intOf i).toNat)
    case atStart => exact ⟨0, 0, Nat.zero_le _, rfl, rfl, rfl⟩
    case round =>
      obtain ⟨k, nq, hk, rfl, rfl, heq⟩ := hrel
      by_cases hlt : k < n0
      · obtain ⟨b0, o0, r, rfl, _, hr, x0, x1⟩ := H0.out.dg hlt
        obtain ⟨b1, o1, q, rfl, _, hq, y0, y1⟩ := H1.out.dg hlt
        have HR := Lib.hid hr; have HQ := Lib.hid hq; clear hr hq
        have hlz : (k : Int) < (n0 : Int) := by omega
        by_cases e : r = q
        · have t1 : (r.1 == q.1 && r.2 == q.2) = true := by rw [e]; simp
          have HE := Lib.hid e; clear e
          have hnx : Hid (rs.take (k + 1) = qs.take (k + 1)) := by
            show _ = _
            rw [take_snoc HR.out, take_snoc HQ.out, heq.out, HE.out]
          go_wp2
          go_quiet (fail)
          go_wp2
          go_roundw
          case rel => exact ⟨k + 1, _, by omega, by go_num, rfl, hnx⟩
          case measure => simp [intOf]; omega
        · have t1 : (r.1 == q.1 && r.2 == q.2) = false := by
            rw [Bool.eq_false_iff]; intro hh
            simp only [Bool.and_eq_true, beq_iff_eq] at hh
            apply e
            exact Prod.ext hh.1 hh.2
          have HE := Lib.hid e; clear e
          go_wp2
          go_quiet (fail)
          go_wp2
          go_ret
          refine ⟨ret_bool ?_, ⟨_, World.drewN_drewN _ _ _⟩⟩
          symm
          rw [Bool.eq_false_iff]
          intro hh
          have := hM.out.1 hh
          subst this
          exact HE.out (Option.some.inj (HR.out.symm.trans HQ.out))
      · have hall : Hid (mb = true) := by
          have := heq.out
          rw [List.take_of_length_le (by rw [HL0.out]; omega), List.take_of_length_le (by rw [HL1.out]; omega)] at this
          exact hM.out.2 this
        have hlz : ¬ (k : Int) < (n0 : Int) := by omega
        go_wp2
        go_ret
        exact ⟨ret_bool hall.out.symm, _, rfl⟩
  · have hne : ((n0 : Int) != (n1 : Int)) = true := by rw [bne_iff_ne]; omega
    go_enter Tryz.func13, Tryz.ntmps13
    go_wp2
    go_ret
    refine ⟨ret_bool ?_, 0, rfl⟩
    symm
    rw [Bool.eq_false_iff]
    intro hh
    have := hM.out.1 hh
    subst this
    exact hn (HL0.out.symm.trans HL1.out)

def DpE (hv p : List Itm) (hs : List Dig) (dep : Int) (pre : ByteArray) (w : World) (e : Ending) (w' : World) : Prop :=
  ((∃ l edge r A c A2 c2, NdR 2 4 9 p hs dep (toL pre) l edge 0 ∧ UniR hv (keepP p l) r ∧ e = .returned (.tuple #[.slice A r.length c, .slice A2 edge.length c2, .int .i64 0]) ∧ Sl w' w'.heap.size 3 A r.length (flat itC r) ∧ Sl w' w'.heap.size 2 A2 edge.length (flat dgC edge) ∧ r.length ≤ c ∧ c ≤ maxLen ∧ edge.length ≤ 500000000) ∨ (∃ l edge z, z ≠ 0 ∧ NdR 2 4 9 p hs dep (toL pre) l edge z ∧ e = .returned (.tuple #[.slice none 0 0, .slice none 0 0, .int .i64 z])) ∨ (∃ l edge, NdR 2 4 9 p hs dep (toL pre) l edge 0 ∧ Clash hv (keepP p l) ∧ e = .returned (.tuple #[.slice none 0 0, .slice none 0 0, .int .i64 16]))) ∧ Below w.heap.size w w'
set_option maxRecDepth 100000 in
set_option maxHeartbeats 16000000 in
theorem deepen_any (hv : List Itm) (vA : Option Addr) (vn vc : Nat) (p : List Itm) (pA : Option Addr) (pn pc : Nat) (hs : List Dig) (hA : Option Addr) (hn hc : Nat) (dep : Int) (pre : ByteArray) (w : World)
    (hv0 : Sl w w.heap.size 3 vA vn (flat itC hv)) (h0 : Sl w w.heap.size 3 pA pn (flat itC p)) (h1 : Sl w w.heap.size 2 hA hn (flat dgC hs)) (hpo : PlOk p) (hpn : pn ≤ 40) (hh : ∀ d ∈ hs, WfD d) (hhn : hn ≤ 8) (hvn : vn ≤ 400000) (hva : AscI hv) :
    Calls Tryz.prog 20 #[.slice vA vn vc, .slice pA pn pc, .slice hA hn hc, scV dep pre] w (DpE hv p hs dep pre w) := by
  have HPO := Lib.hid hpo; have HH := Lib.hid hh; have HVA := Lib.hid hva
  have HPL := Lib.hid (h0.len itC_len (by omega))
  obtain ⟨W0, hW0⟩ : ∃ W, w.alloc (.cells #[.int .i64 dep, .string pre] 26) = W := ⟨_, rfl⟩
  have HB0 : Hid (Below w.heap.size w W0) := by rw [← hW0]; exact (Below.refl _ w).alloc (Nat.le_refl _) _
  have HK0 : Hid (Bk W0 w.heap.size 26 #[.int .i64 dep, .string pre]) := by rw [← hW0]; exact Bk.new w _ _
  have hb0 := HB0.out
  have HN := Lib.hid (clone_any p pA pn pc hs hA hn hc dep pre W0.heap.size W0 ((h0.below hb0 (Nat.le_refl _)).more hb0.size) ((h1.below hb0 (Nat.le_refl _)).more hb0.size) (Nat.le_refl _) HPO.out hpn HH.out hhn)
  have HV0 := Lib.hid ((hv0.below hb0 (Nat.le_refl _)).more hb0.size)
  obtain ⟨x0, x1, _, _⟩ := HK0.out.two
  have HW0 := Lib.hid hW0
  rw [← hW0] at x0 x1
  unfold scV at HN ⊢
  clear hpo hh hva h0 h1 hv0 hW0 hb0
  go_enter Tryz.func20, Tryz.ntmps20
  go_wp2_with fail
  rw [HW0.out]
  refine HN.out.mono ?_
  rintro e w1 ⟨l, edge, z, A, c, A2, c2, rfl, hR, ⟨hS1, hS2⟩, hwf, ⟨hlc, hcm, hec, hcm2⟩, hll, hel, hb1⟩
  have HR := Lib.hid hR; have HS1 := Lib.hid hS1; have HS2 := Lib.hid hS2
  have HB1 : Hid (Below w.heap.size w w1) := HB0.out.trans (hb1.mono HB0.out.size)
  have HV1 := Lib.hid ((HV0.out.below hb1 (Nat.le_refl _)).more hb1.size)
  clear hR hS1 hS2 hwf hb1 HN x0 x1 HW0 HV0
  by_cases hz : z = 0
  · subst hz
    have hq40 : (keepP p l).length ≤ 40 := Nat.le_trans (List.length_filter_le _ _) (by rw [HPL.out]; exact hpn)
    have HU := Lib.hid (punion_any vA A vn vc (keepP p l).length c w1.heap.size hv (keepP p l) w1 HV1.out HS1.out (Nat.le_refl _) hvn (by omega) HVA.out (HPO.out.keep l).asc)
    go_wp2_with fail
    refine HU.out.mono ?_
    rintro e w2 ⟨hu, hb2⟩
    have HB2 : Hid (Below w.heap.size w w2) := HB1.out.trans (hb2.mono HB1.out.size)
    have HS22 := Lib.hid ((HS2.out.below hb2 (Nat.le_refl _)).more hb2.size)
    rcases hu with ⟨r, A3, c3, hur, rfl, hs3, h31, h32⟩ | ⟨hcl, rfl⟩
    · have HUR := Lib.hid hur; have HS3 := Lib.hid hs3
      clear hur hs3 hb2 HU
      go_wp2_with fail
      refine bodyPost_ret (results_tmp3 rfl _ _ _) rfl ?_
      exact ⟨.inl ⟨l, edge, r, A3, c3, A2, c2, HR.out, HUR.out, rfl, HS3.out, HS22.out, h31, h32, hel⟩, HB2.out⟩
    · have HCL := Lib.hid hcl
      clear hcl hb2 HU
      go_wp2_with fail
      refine bodyPost_ret (results_tmp3 rfl _ _ _) rfl ?_
      exact ⟨.inr (.inr ⟨l, edge, HR.out, HCL.out, rfl⟩), HB2.out⟩
  · have hzz : (z != 0) = true := by rw [bne_iff_ne]; exact hz
    have HZ := Lib.hid hz
    clear hz
    go_wp2_with fail
    refine bodyPost_ret (results_tmp3 rfl _ _ _) rfl ?_
    exact ⟨.inr (.inl ⟨l, edge, z, HZ.out, HR.out, rfl⟩), HB1.out⟩
end Go.Proofs.YtlcecobipgmafaaGreatDoor

namespace Go.Proofs.YtlcecobipgmafaaGreatDoor
open Go.RowKit

def grB (d0 : Int) (p0 : ByteArray) (d1 : Int) (p1 : ByteArray) : Bool := (decide (d0 = 0) || (decide (0 < d1) && decide (d1 ≤ d0))) && Lib.hasPrefix (bl p1) (bl p0)
set_option maxHeartbeats 2000000 in
theorem greater_any (d0 d1 : Int) (p0 p1 : ByteArray) (w : World) (hp : p0.size ≤ maxLen) : Calls Tryz.prog 18 #[scV d0 p0, scV d1 p1] w fun e w' => e = .returned (.bool (grB d0 p0 d1 p1)) ∧ Below w.heap.size w w' := by
  obtain ⟨W, hW⟩ : ∃ W, (w.alloc (.cells #[.int .i64 d0, .string p0] 26)).alloc (.cells #[.int .i64 d1, .string p1] 26) = W := ⟨_, rfl⟩
  have HB : Hid (Below w.heap.size w W) := by rw [← hW]; exact ((Below.refl _ w).alloc (Nat.le_refl _) _).alloc (by simp) _
  have HA : Hid (Bk W w.heap.size 26 #[.int .i64 d0, .string p0]) := by rw [← hW]; exact (Bk.new w _ _).alloc _
  have HC : Hid (Bk W (w.heap.size + 1) 26 #[.int .i64 d1, .string p1]) := by
    rw [← hW]
    have := Bk.new (w.alloc (.cells #[.int .i64 d0, .string p0] 26)) 26 #[.int .i64 d1, .string p1]
    rw [World.size_alloc] at this; exact this
  have HG := Lib.hid (begins14_any p1 p0 W hp)
  obtain ⟨x0, x1, _, _⟩ := HA.out.two
  obtain ⟨y0, y1, _, _⟩ := HC.out.two
  have HW := Lib.hid hW
  rw [← hW] at x0 x1 y0 y1
  clear hW hp
  unfold scV grB
  by_cases h1 : d0 = 0
  · rw [decide_eq_true h1, Bool.true_or, Bool.true_and]
    have t1 : (d0 == 0) = true := by simpa using h1
    clear h1
    go_enter Tryz.func18, Tryz.ntmps18
    go_wp2_with fail
    rw [HW.out]
    refine HG.out.mono ?_
    rintro e w2 ⟨rfl, rfl⟩
    go_wp2_with fail
    go_ret
    exact ⟨rfl, HB.out⟩
  · have t1 : (d0 == 0) = false := by simpa using h1
    rw [decide_eq_false h1, Bool.false_or]
    by_cases h2 : 0 < d1
    · rw [decide_eq_true h2, Bool.true_and]
      by_cases h3 : d1 ≤ d0
      · rw [decide_eq_true h3, Bool.true_and]
        go_enter Tryz.func18, Tryz.ntmps18
        go_wp2_with fail
        rw [HW.out]
        refine HG.out.mono ?_
        rintro e w2 ⟨rfl, rfl⟩
        go_wp2_with fail
        go_ret
        exact ⟨rfl, HB.out⟩
      · rw [decide_eq_false h3, Bool.false_and]
        go_enter Tryz.func18, Tryz.ntmps18
        go_wp2_with fail
        rw [HW.out]
        go_ret
        exact ⟨rfl, HB.out⟩
    · rw [decide_eq_false h2, Bool.false_and, Bool.false_and]
      go_enter Tryz.func18, Tryz.ntmps18
      go_wp2_with fail
      rw [HW.out]
      go_ret
      exact ⟨rfl, HB.out⟩
end Go.Proofs.YtlcecobipgmafaaGreatDoor

namespace Go.Proofs.YtlcecobipgmafaaGreatDoor
open Go.RowKit Go.Maps

def sc2V (d0 : Int) (p0 : ByteArray) (d1 : Int) (p1 : ByteArray) : Value := .agg #[.int .i64 d0, .string p0, .int .i64 d1, .string p1]
theorem grS_of {d0 d1 : Int} {p0 p1 : ByteArray} (h : grB d0 p0 d1 p1 = true) : GrS d0 (toL p0) d1 (toL p1) := by
  unfold grB at h
  rw [Bool.and_eq_true, Bool.or_eq_true, Bool.and_eq_true, decide_eq_true_iff, decide_eq_true_iff, decide_eq_true_iff] at h
  rw [hasP_iff, decide_eq_true_iff] at h
  exact ⟨h.1, h.2⟩
set_option maxRecDepth 100000 in
set_option maxHeartbeats 32000000 in
theorem lawPg_any (p : List Itm) (pA : Option Addr) (pn pc : Nat) (hs : List Dig) (hA : Option Addr) (hn hc : Nat) (d0 : Int) (p0 : ByteArray) (d1 : Int) (p1 : ByteArray) (w : World)
    (h0 : Sl w w.heap.size 3 pA pn (flat itC p)) (h1 : Sl w w.heap.size 2 hA hn (flat dgC hs)) (hpn : pn ≤ maxLen) (hsz : ∀ i ∈ p, i.2.size ≤ maxLen) (hh : ∀ d ∈ hs, WfD d) (hp0 : p0.size ≤ maxLen) :
    Calls Tryz.prog 5 #[.slice pA pn pc, .slice hA hn hc, sc2V d0 p0 d1 p1] w (LawE w) := by
  have HPL := Lib.hid (h0.len itC_len (by unfold maxLen at hpn; omega))
  have HH := Lib.hid hh
  obtain ⟨W0, hW0⟩ : ∃ W, w.alloc (.cells #[.int .i64 d0, .string p0, .int .i64 d1, .string p1] 46) = W := ⟨_, rfl⟩
  have hb0 : Below w.heap.size w W0 := by rw [← hW0]; exact (Below.refl _ w).alloc (Nat.le_refl _) _
  have e0 : W0.heap.size = w.heap.size + 1 := by rw [← hW0]; simp
  obtain ⟨W1, hW1⟩ : ∃ W, W0.alloc (.cells #[.slice hA hn hc] 24) = W := ⟨_, rfl⟩
  have hb1 : Below W0.heap.size W0 W1 := by rw [← hW1]; exact (Below.refl _ W0).alloc (Nat.le_refl _) _
  have HB1 : Hid (Below w.heap.size w W1) := hb0.trans (hb1.mono hb0.size)
  have HK1 : Hid (Bk W1 w.heap.size 46 #[.int .i64 d0, .string p0, .int .i64 d1, .string p1]) := by rw [← hW1, ← hW0]; exact (Bk.new w _ _).alloc _
  have hL1 : Bk W1 (w.heap.size + 1) 24 #[.slice hA hn hc] := by rw [← hW1, ← e0]; exact Bk.new W0 _ _
  have HP1 := Lib.hid (sl_on4 h0 HB1.out); have HH1 := Lib.hid (sl_on4 h1 HB1.out)
  have HS := Lib.hid (small_any pA pn pc p (w.heap.size + 1) hA hn hc W1 HP1.out hL1 hpn hsz)
  unfold SmE at HS
  have HGR := Lib.hid (fun W => greater_any d0 d1 p0 p1 W hp0)
  have HW0 := Lib.hid hW0; have HW1 := Lib.hid hW1
  unfold scV at HGR
  unfold sc2V LawE
  clear hh h0 h1 hW0 hW1 hb0 hb1 e0 hL1 hsz hp0
  go_enter Tryz.func5, Tryz.ntmps5
  go_wp2_with fail
  rw [HW0.out, HW1.out]
  refine HS.out.mono ?_
  rintro e w2 ⟨r, rfl, hr, hb2⟩
  have HR := Lib.hid hr
  have HB2 : Hid (Below w.heap.size w w2) := HB1.out.trans (hb2.mono HB1.out.size)
  have HK2 := Lib.hid (HK1.out.below hb2 HK1.out.lt)
  have HP2 := Lib.hid (sl_on4 HP1.out hb2); have HH2 := Lib.hid (sl_on4 HH1.out hb2)
  clear hr hb2 HS HB1 HK1 HP1 HH1 HW0 HW1
  have HAW := Lib.hid (fun W => awake_any W)
  unfold LawE at HAW
  cases r with
  | false =>
    go_wp2_with fail
    refine (HAW.out w2).mono ?_
    rintro e w3 ⟨rfl, hb3⟩
    have HB3 : Hid (Below w.heap.size w w3) := HB2.out.trans (hb3.mono HB2.out.size)
    clear hb3 HAW
    go_wp2_with fail
    go_ret
    exact ⟨rfl, HB3.out⟩
  | true =>
    obtain ⟨hn8, hp40, hpo⟩ := HR.out rfl
    have HPO := Lib.hid hpo
    clear hpo HR
    have c0 := HK2.out.cell 0; have c1 := HK2.out.cell 1; have c2 := HK2.out.cell 2; have c3 := HK2.out.cell 3
    simp at c0 c1 c2 c3
    obtain ⟨gr, hgr⟩ : ∃ g, grB d0 p0 d1 p1 = g := ⟨_, rfl⟩
    have HG := Lib.hid hgr
    rw [hgr] at HGR
    clear hgr
    go_wp2_with fail
    refine (HGR.out w2).mono ?_
    rintro e w3 ⟨rfl, hb3⟩
    have HB3 : Hid (Below w.heap.size w w3) := HB2.out.trans (hb3.mono HB2.out.size)
    have HK3 := Lib.hid (HK2.out.below hb3 HK2.out.lt)
    have HP3 := Lib.hid (sl_on4 HP2.out hb3); have HH3 := Lib.hid (sl_on4 HH2.out hb3)
    clear hb3 HGR HB2 HK2 HP2 HH2 c0 c1 c2 c3
    cases gr with
    | false =>
      go_wp2_with fail
      refine (HAW.out w3).mono ?_
      rintro e w4 ⟨rfl, hb4⟩
      have HB4 : Hid (Below w.heap.size w w4) := HB3.out.trans (hb4.mono HB3.out.size)
      clear hb4 HAW
      go_wp2_with fail
      go_ret
      exact ⟨rfl, HB4.out⟩
    | true =>
      have HGS := Lib.hid (grS_of HG.out)
      have HC := Lib.hid (clone_any p pA pn pc hs hA hn hc d0 p0 w3.heap.size w3 HP3.out HH3.out (Nat.le_refl _) HPO.out hp40 HH.out hn8)
      unfold scV at HC
      have c0 := HK3.out.cell 0; have c1 := HK3.out.cell 1
      simp at c0 c1
      go_wp2_with fail
      refine HC.out.mono ?_
      rintro e w4 ⟨l0, edge0, z0, A, c, A2, c2, rfl, hR, ⟨hS1, hS2⟩, hwf, ⟨hlc, hcm, hec, hcm2⟩, hll, hel, hb4⟩
      have HR0 := Lib.hid hR; have HS4 := Lib.hid hS1; have HE4 := Lib.hid hS2
      have HB4 : Hid (Below w.heap.size w w4) := HB3.out.trans (hb4.mono HB3.out.size)
      have HK4 := Lib.hid (HK3.out.below hb4 HK3.out.lt)
      have HP4 := Lib.hid (sl_on4 HP3.out hb4); have HH4 := Lib.hid (sl_on4 HH3.out hb4)
      clear hR hS1 hS2 hwf hb4 HC HB3 HK3 HP3 HH3 c0 c1
      have HC := Lib.hid (clone_any p pA pn pc hs hA hn hc d1 p1 w4.heap.size w4 HP4.out HH4.out (Nat.le_refl _) HPO.out hp40 HH.out hn8)
      unfold scV at HC
      have c0 := HK4.out.cell 2; have c1 := HK4.out.cell 3
      simp at c0 c1
      go_wp2_with fail
      refine HC.out.mono ?_
      rintro e w5 ⟨l1, edge1, z1, B, cB, B2, cB2, rfl, hR, ⟨hS1, hS2⟩, hwf, ⟨hlc1, hcm1, hec1, hcm21⟩, hll1, hel1, hb5⟩
      have HR1 := Lib.hid hR; have HT5 := Lib.hid hS1
      have HB5 : Hid (Below w.heap.size w w5) := HB4.out.trans (hb5.mono HB4.out.size)
      have HK5 := Lib.hid (HK4.out.below hb5 HK4.out.lt)
      have HP5 := Lib.hid (sl_on4 HP4.out hb5); have HH5 := Lib.hid (sl_on4 HH4.out hb5)
      have HS5 := Lib.hid (sl_on4 HS4.out hb5); have HE5 := Lib.hid (sl_on4 HE4.out hb5)
      clear hR hS1 hS2 hwf hb5 HC HB4 HK4 HP4 HH4 HS4 HE4 c0 c1
      by_cases hz0 : z0 = 0
      case neg =>
        have hzz : (z0 != 0) = true := by rw [bne_iff_ne]; exact hz0
        clear hz0
        go_wp2_with fail
        refine (HAW.out w5).mono ?_
        rintro e w6 ⟨rfl, hb6⟩
        have HB6 : Hid (Below w.heap.size w w6) := HB5.out.trans (hb6.mono HB5.out.size)
        clear hb6 HAW
        go_wp2_with fail
        go_ret
        exact ⟨rfl, HB6.out⟩
      case pos =>
        subst hz0
        by_cases hz1 : z1 = 0
        case neg =>
          have hzz : (z1 != 0) = true := by rw [bne_iff_ne]; exact hz1
          clear hz1
          go_wp2_with fail
          refine (HAW.out w5).mono ?_
          rintro e w6 ⟨rfl, hb6⟩
          have HB6 : Hid (Below w.heap.size w w6) := HB5.out.trans (hb6.mono HB5.out.size)
          clear hb6 HAW
          go_wp2_with fail
          go_ret
          exact ⟨rfl, HB6.out⟩
        case pos =>
          subst hz1
          have HN0 := Lib.hid (HR0.out.get (by decide) (by decide) (by decide)); have HN1 := Lib.hid (HR1.out.get (by decide) (by decide) (by decide))
          have HSUB : Hid (∀ d, d ∈ l1 → d ∈ l0) := fun d hd => (HN0.out.ml d).2 (Need.grow HGS.out ((HN1.out.ml d).1 hd))
          have HGW := Lib.hid (keepP_grow HPO.out HSUB.out)
          have HQ0 := Lib.hid (HPO.out.keep l0); have HQ1 := Lib.hid (HPO.out.keep l1)
          have HHAS : Hid (∀ i ∈ keepP p l1, (findP (keepP p l0) i.1).isSome = true) := fun i hi => by
            have h1 := keepP_mem.1 hi
            have h2 : (i.1, i.2) ∈ keepP p l0 := keepP_mem.2 ⟨h1.1, HSUB.out _ h1.2⟩
            rw [(findP_some HQ0.out.asc).2 h2]; rfl
          have hq0 : (keepP p l0).length ≤ 40 := Nat.le_trans (List.length_filter_le _ _) (by rw [HPL.out]; exact hp40)
          have hq1 : (keepP p l1).length ≤ 40 := Nat.le_trans (List.length_filter_le _ _) (by rw [HPL.out]; exact hp40)
          have HDP : Hid (∀ W, Below w5.heap.size w5 W → Calls Tryz.prog 20 #[.slice B (keepP p l1).length cB, .slice pA pn pc, .slice hA hn hc, .agg #[.int .i64 d0, .string p0]] W (DpE (keepP p l1) p hs d0 p0 W)) := fun W hW => by
            have := deepen_any (keepP p l1) B (keepP p l1).length cB p pA pn pc hs hA hn hc d0 p0 W (sl_on4 HT5.out hW) (sl_on4 HP5.out hW) (sl_on4 HH5.out hW) HPO.out hp40 HH.out hn8 (by omega) HQ1.out.asc
            unfold scV at this; exact this
          obtain ⟨q0, hq0e⟩ : ∃ q, keepP p l0 = q := ⟨_, rfl⟩
          obtain ⟨q1, hq1e⟩ : ∃ q, keepP p l1 = q := ⟨_, rfl⟩
          have HE0 := Lib.hid hq0e; have HE1 := Lib.hid hq1e
          rw [hq0e] at HGW HQ0 HHAS hq0 HS5 ⊢
          rw [hq1e] at HGW HQ1 HHAS hq1 HT5 HDP ⊢
          clear hq0e hq1e
          obtain ⟨m0, hm0⟩ : ∃ m, q0.length = m := ⟨_, rfl⟩
          obtain ⟨m1, hm1⟩ : ∃ m, q1.length = m := ⟨_, rfl⟩
          have HM0 := Lib.hid hm0
          rw [hm0] at HS5 hq0 ⊢
          rw [hm1] at HT5 HDP hq1 ⊢
          clear hm0 hm1
          go_wp2_with fail
          go_loopw [59] (fun i wr => ∃ k : Nat, k ≤ m1 ∧ i = .int .i64 k ∧ Hid (Below w5.heap.size w5 wr)) (fun i _ => m1 - (intOf i).toNat)
          case atStart => exact ⟨0, Nat.zero_le _, rfl, Below.refl _ _⟩
          case round =>
            obtain ⟨k, hk, rfl, hBw⟩ := hrel
            have HBw := Lib.hid hBw.out
            clear hBw
            by_cases hlt : k < m1
            · obtain ⟨bb, off, x, rfl, hbB, hx, y0, y1, y2⟩ := (sl_on4 HT5.out HBw.out).it hlt
              have hlz : (k : Int) < (m1 : Int) := by omega
              have hhas := HHAS.out x (List.mem_of_getElem? hx)
              obtain ⟨⟨x1, x2⟩, xs⟩ := x
              simp only at y0 y1 y2 hhas
              obtain ⟨wx, hwx⟩ : ∃ W, wr.alloc (.cells #[.int .u64 x1, .int .u64 x2, .string xs] 44) = W := ⟨_, rfl⟩
              have hbx : Below wr.heap.size wr wx := by rw [← hwx]; exact (Below.refl _ wr).alloc (Nat.le_refl _) _
              have HKX : Hid (Bk wx wr.heap.size 44 #[.int .u64 x1, .int .u64 x2, .string xs]) := by rw [← hwx]; exact Bk.new wr _ _
              have HBx : Hid (Below w5.heap.size w5 wx) := HBw.out.trans (hbx.mono HBw.out.size)
              have HSx := Lib.hid (sl_on4 HS5.out HBx.out)
              have HC := Lib.hid (phas_any A m0 c wx.heap.size q0 (x1, x2) wx HSx.out (Nat.le_refl _) (by omega) HQ0.out.asc)
              rw [hhas] at HC
              simp only [digV] at HC
              obtain ⟨r0, r1, r2⟩ := HKX.out.three
              rw [← hwx] at r0 r1 r2
              have HWX := Lib.hid hwx
              clear hwx hbx hx hhas
              go_wp2_with fail
              rw [HWX.out]
              refine HC.out.mono ?_
              rintro e w7 ⟨rfl, hb7⟩
              have HB7 : Hid (Below w5.heap.size w5 w7) := HBx.out.trans (hb7.mono HBx.out.size)
              clear hb7 HC HWX r0 r1 r2 HKX HSx HBx y0 y1 y2
              go_wp2_with fail
              go_roundw
              case rel => exact ⟨k + 1, hlt, by go_num, HB7.out⟩
              case measure => simp [intOf]; omega
            · have hlz : ¬ (k : Int) < (m1 : Int) := by omega
              obtain ⟨wo, hwo⟩ : ∃ wo, wo = wr := ⟨_, rfl⟩
              subst hwo
              have HKo := Lib.hid (HK5.out.below HBw.out HK5.out.lt)
              have HBo : Hid (Below w.heap.size w wo) := HB5.out.trans (HBw.out.mono HB5.out.size)
              have HSo := Lib.hid (sl_on4 HS5.out HBw.out); have HEo := Lib.hid (sl_on4 HE5.out HBw.out)
              have HD := Lib.hid (HDP.out wo HBw.out)
              have c0 := HKo.out.cell 0; have c1 := HKo.out.cell 1
              simp at c0 c1
              clear HDP HK5
              go_wp2_with fail
              refine HD.out.mono ?_
              rintro e w7 ⟨hd, hb7⟩
              rcases hd with ⟨l, edge, r, A3, c3, A4, c4, hR, hU, rfl, hs3, hs4, _, _, _⟩ | ⟨l, edge, z, hz, hR, _⟩ | ⟨l, edge, hR, hC, _⟩
              · obtain ⟨rfl, rfl, _⟩ := hR.uniq HR0.out
                rw [HE0.out] at hU
                obtain rfl := HGW.out.2 r hU
                have HB7 : Hid (Below w.heap.size w w7) := HBo.out.trans (hb7.mono HBo.out.size)
                have HSM := Lib.hid (same8_any A3 A r.length c3 m0 c w7.heap.size r r w7 hs3 (sl_on4 HSo.out hb7) (by unfold maxLen; rw [HM0.out]; omega))
                have HED := Lib.hid (fun k => sameDg_any A4 A2 edge.length c4 edge.length c2 w7.heap.size edge edge (w7.drewN k) (hs4.below (below_drewN (Below.refl _ _) k) (Nat.le_refl _)) ((sl_on4 HEo.out hb7).below (below_drewN (Below.refl _ _) k) (Nat.le_refl _)) (by unfold maxLen; omega))
                rw [decide_eq_true rfl] at HSM
                clear hR hU hs3 hs4 hb7 HD c0 c1
                go_wp2_with fail
                refine HSM.out.mono ?_
                rintro e w8 ⟨rfl, k8, rfl⟩
                clear HSM
                go_wp2_with fail
                refine (HED.out k8).mono ?_
                rintro e w9 ⟨rfl, k9, rfl⟩
                rw [show decide True = true from rfl]
                clear HED
                obtain ⟨w10, hw10⟩ : ∃ W, (w7.drewN k8).drewN k9 = W := ⟨_, rfl⟩
                have HB10 : Hid (Below w.heap.size w w10) := by rw [← hw10]; exact below_drewN (below_drewN HB7.out k8) k9
                rw [hw10]
                clear hw10
                go_wp2_with fail
                refine (HAW.out w10).mono ?_
                rintro e w11 ⟨rfl, hb11⟩
                have HB11 : Hid (Below w.heap.size w w11) := HB10.out.trans (hb11.mono HB10.out.size)
                clear hb11 HAW
                go_wp2_with fail
                go_ret
                exact ⟨rfl, HB11.out⟩
              · exact absurd (hR.uniq HR0.out).2.2 hz
              · obtain ⟨rfl, rfl, _⟩ := hR.uniq HR0.out
                rw [HE0.out] at hC
                exact absurd hC HGW.out.1
end Go.Proofs.YtlcecobipgmafaaGreatDoor

namespace Go.Proofs.YtlcecobipgmafaaGreatDoor
open Go.ChangeShapes Go.WideShapes Go.ChangeAt Go.RowKit Go.Joins Go.Deep

theorem cellsS2 : Tryz.prog.cellsOf 46 = 4 := by kernel_rfl
section
variable {H : Type} {enc : TypeId × Value → H} {P : Program} {w : World} {base : Nat} {spare : Nat → Bool} {held : Bool} {fuel : Nat} {cs : List Value} {x : DataW H × List MemPlace}
theorem trod_sc2P {a t i s : TypeId} {f0 f1 : Field} (ha : P.underlying a = some (.array 2 t)) (ht : P.underlying t = some (.struct #[f0, f1])) (o0 : f0.offset = 0) (o1 : f1.offset = 1) (t0 : f0.type = i) (t1 : f1.type = s)
    (hi : P.underlying i = some (.int .i64)) (hs : P.underlying s = some .string)
    (hCa : P.cellsOf a = 4) (hC : P.cellsOf t = 2) (hci : P.cellsOf i = 1) (hcs : P.cellsOf s = 1) (h : DataW.trod enc P w base spare held fuel a cs = some x) : ∃ (z : Int) (b : ByteArray) (z' : Int) (b' : ByteArray), cs = [.int .i64 z, .string b, .int .i64 z', .string b'] ∧ b.size ≤ maxLen ∧ b'.size ≤ maxLen := by
  obtain ⟨xs, m, _, _, hlen, hxl, hf⟩ := DataW.trod_array ha h
  rw [hCa] at hlen
  obtain ⟨c0, c1, c2, c3, rfl⟩ := len4 hlen
  obtain ⟨y0, y1, rfl⟩ := len2 hxl
  have h0 := hf 0 (by omega)
  have h1 := hf 1 (by omega)
  rw [hC] at h0 h1
  simp at h0 h1
  obtain ⟨z, b, e1, k1⟩ := trod_scP ht o0 o1 t0 t1 hi hs hC hci hcs h0
  obtain ⟨z', b', e2, k2⟩ := trod_scP ht o0 o1 t0 t1 hi hs hC hci hcs h1
  simp at e1 e2
  exact ⟨z, b, z', b', by rw [e1.1, e1.2, e2.1, e2.2], k1, k2⟩
end
section
variable {H : Type} {enc : TypeId × Value → H} {W : World} {base : Nat} {v : Value} {d : DataW H} {p : List MemPlace} {r : Reach} {b0 : Nat} {sp : Nat → Bool} {held : Bool}
set_option maxRecDepth 100000 in
theorem open_sc2 (hv : Value.okWide Tryz.prog W r b0 46 v) (h : DataW.Trod enc Tryz.prog W base sp held 46 v d p) : ∃ (z : Int) (b : ByteArray) (z' : Int) (b' : ByteArray), v = sc2V z b z' b' ∧ b.size ≤ maxLen ∧ b'.size ≤ maxLen := by
  obtain ⟨cs, rfl, hsz⟩ := okWide_array Tryz.underlying46 hv
  obtain ⟨fuel, hf⟩ := h
  obtain ⟨z, b, z', b', he, h1, h2⟩ := trod_sc2P Tryz.underlying46 Tryz.underlying26 rfl rfl rfl rfl Tryz.underlying3 Tryz.underlying9 cellsS2 cellsSc cellsIn cellsStr hf
  have : cs.toList = [.int .i64 z, .string b, .int .i64 z', .string b'] := he
  exact ⟨z, b, z', b', by rw [show cs = #[.int .i64 z, .string b, .int .i64 z', .string b'] by rw [← Array.toArray_toList (xs := cs), this]]; rfl, h1, h2⟩
end
end Go.Proofs.YtlcecobipgmafaaGreatDoor
