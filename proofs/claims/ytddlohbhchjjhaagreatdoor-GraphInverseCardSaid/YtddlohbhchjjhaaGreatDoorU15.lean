/-
  Lemmas: The reference's Visible. GraphCycle.
-/
import Derived.Test.YtddlohbhchjjhaaGreatDoorU14

namespace Go.Proofs.YtddlohbhchjjhaaGreatDoor
open Go.RowKit Go.Maps

theorem bl_len' (s : ByteArray) : (bl s).length = s.size := (size_len s).symm
theorem size_zero {v : ByteArray} (h : v.size = 0) : v = ⟨#[]⟩ := by
  obtain ⟨a⟩ := v
  have h' : a.size = 0 := h
  rw [Array.size_eq_zero_iff] at h'
  rw [h']
theorem suf47 {v : ByteArray} {m : Nat} (hv : v.size = m + 1) (hm : m < v.size) : Lib.hasSuffix (bl v) [47] = decide (v[m] = 47) := by
  have hl : m < (bl v).length := by rw [bl_len']; exact hm
  have hd : (bl v).drop m = [v[m]] := by
    rw [← List.getElem_cons_drop hl, List.drop_of_length_le (by rw [bl_len']; omega)]
    rfl
  show List.isSuffixOf [47] (bl v) = _
  rw [Bool.eq_iff_iff, List.isSuffixOf_iff_suffix, List.suffix_iff_eq_drop, decide_eq_true_iff]
  rw [show (bl v).length - [(47 : UInt8)].length = m by rw [bl_len']; simp; omega, hd]
  constructor
  · intro h; injection h with h _; exact h.symm
  · intro h; exact congrArg (fun x => [x]) h.symm
theorem suf_nil : Lib.hasSuffix (bl ⟨#[]⟩) [47] = false := by kernel_rfl
set_option maxRecDepth 100000 in
set_option maxHeartbeats 4000000 in
theorem rvisible_any (t : Tg) (fr : ByteArray) (B : Nat) (w : World) (hok : TgOk w B t) (hB : B ≤ w.heap.size) (hl : t.lab.size ≤ 1000000) (hf : fr.size ≤ 1000000) :
    Calls Tryz.prog 18 #[tgV t, .string fr] w (VsbEnd (visT t.lab t.vis fr) w) := by
  have hvl := hok.vlen
  have HVS := Lib.hid hok.vs
  have HV0 := Lib.hid hok.v
  have hvm : t.vn ≤ 9223372036854775807 := by have h1 := hok.vle; have h2 := hok.vmax; unfold maxLen at h2; omega
  clear hok
  obtain ⟨lab, kind, dA, dn, dc, deps, vA, vn, vc, vis⟩ := t
  simp only at hvl HVS HV0 hvm hl ⊢
  unfold tgV
  simp only
  obtain ⟨W0, hW0⟩ : ∃ W0, w.alloc (.cells #[.string lab, .int .i64 kind, .slice dA dn dc, .slice vA vn vc] 35) = W0 := ⟨_, rfl⟩
  have HB0 : Hid (Below w.heap.size w W0) := by rw [← hW0]; exact (Below.refl _ w).alloc (Nat.le_refl _) _
  have HK0 : Hid (Bk W0 w.heap.size 35 #[.string lab, .int .i64 kind, .slice dA dn dc, .slice vA vn vc]) := by rw [← hW0]; exact Bk.new w _ _
  have HV := Lib.hid (HV0.out.below HB0.out hB)
  have HD1 := Lib.hid (rdir_any lab W0 hl)
  have HD2 := Lib.hid (rdir_any fr W0 hf)
  have x0 := HK0.out.cell 0; have x3 := HK0.out.cell 3
  simp at x0 x3
  clear HV0
  go_enter Tryz.func18, Tryz.ntmps18
  have hdd := str_dec (dirS lab) (dirS fr)
  by_cases hd : dirS lab = dirS fr
  · have HR := Lib.hid (vis_dir (vis := vis) hd)
    rw [decide_eq_true hd] at hdd
    clear hd
    rw [← hW0] at x0 x3
    have HW0 := Lib.hid hW0
    clear hW0
    go_wp2_with fail
    rw [HW0.out]
    refine HD1.out.mono ?_
    rintro e w1 ⟨rfl, rfl⟩
    go_wp2_with fail
    refine HD2.out.mono ?_
    rintro e w1 ⟨rfl, rfl⟩
    go_wp2_with fail
    go_ret
    exact ⟨ret_bool HR.out.symm, HB0.out⟩
  · have HR := Lib.hid (vis_nodir (vis := vis) hd)
    rw [decide_eq_false hd] at hdd
    clear hd
    have y0 := x0; have y3 := x3
    rw [← hW0] at x0 x3
    have HW0 := Lib.hid hW0
    clear hW0
    go_wp2_with fail
    rw [HW0.out]
    refine HD1.out.mono ?_
    rintro e w1 ⟨rfl, rfl⟩
    go_wp2_with fail
    refine HD2.out.mono ?_
    rintro e w1 ⟨rfl, rfl⟩
    go_wp2_with fail
    go_loopw [5] (fun i wr => ∃ k : Nat, k ≤ vn ∧ i = .int .i64 k ∧ Hid (∀ y ∈ vis.take k, visP fr y = false) ∧ wr = W0) (fun i _ => vn - (intOf i).toNat)
    case atStart => exact ⟨0, Nat.zero_le _, rfl, fun y hy => by simp at hy, rfl⟩
    case round =>
      obtain ⟨k, hk, rfl, hN, rfl⟩ := hrel
      by_cases hlt : k < vn
      · obtain ⟨b, off, v, rfl, hb, hv, z0⟩ := HV.out.str_at hlt
        have hkz : (k : Int) < (vn : Int) := by omega
        have hvs : v.size ≤ maxLen := HVS.out v (List.mem_of_getElem? hv)
        have HVM := Lib.hid (List.mem_of_getElem? hv)
        have HVK := Lib.hid hv
        have HPR := Lib.hid (begins_any fr v wr hvs)
        clear hv
        unfold maxLen at hvs
        have h1 : (v.toList == [42]) = decide (v = starW) := str_lit v _
        have h2 := str_dec v fr
        have HT : ∀ r, visP fr v = r → Hid (visP fr v = r) := fun r h => h
        have HYes : Hid (visP fr v = true → visT lab vis fr = true) := fun h => by rw [HR.out, List.any_eq_true]; exact ⟨v, HVM.out, h⟩
        have HNo : Hid (visP fr v = false → ∀ y ∈ vis.take (k + 1), visP fr y = false) := any_step hN.out HVK.out
        by_cases e1 : v = starW
        · have hp := HT true (by unfold visP; rw [decide_eq_true e1]; rfl)
          rw [decide_eq_true e1] at h1
          have h1' : (v.toList == [42]) = true := h1
          clear h1 e1 HT
          go_wp2_with fail
          go_ret
          exact ⟨ret_bool (HYes.out hp.out).symm, HB0.out⟩
        · rw [decide_eq_false e1] at h1
          have h1' : (v.toList == [42]) = false := h1
          by_cases e2 : v = fr
          · have hp := HT true (by unfold visP; rw [decide_eq_true e2]; simp)
            rw [decide_eq_true e2] at h2
            clear h1 e1 e2 HT
            go_wp2_with fail
            go_ret
            exact ⟨ret_bool (HYes.out hp.out).symm, HB0.out⟩
          · rw [decide_eq_false e2] at h2
            have hp : visP fr v = (Lib.hasSuffix (bl v) [47] && Lib.hasPrefix (bl fr) (bl v)) := by unfold visP; rw [decide_eq_false e1, decide_eq_false e2]; simp
            have h3 : (v.toList == []) = decide (v = ⟨#[]⟩) := str_lit v _
            by_cases e3 : v = ⟨#[]⟩
            · have hp2 := HT false (by rw [hp, e3, suf_nil]; rfl)
              rw [decide_eq_true e3] at h3
              have h3' : (v.toList == []) = true := h3
              clear h1 e1 e2 HT hp h3 e3
              go_wp2_with fail
              go_roundw
              case rel => exact ⟨k + 1, hlt, by go_num, HNo.out hp2.out, trivial⟩
              case measure => simp [intOf]; omega
            rw [decide_eq_false e3] at h3
            have h3' : (v.toList == []) = false := h3
            have hvp : 0 < v.size := Nat.pos_of_ne_zero fun h0 => e3 (size_zero h0)
            obtain ⟨m, hm⟩ : ∃ m, v.size = m + 1 := ⟨v.size - 1, by omega⟩
            have hml : m < v.size := by omega
            have hw0 : IntKind.i64.wrap ((v.size : Int) - 1) = (m : Int) := by rw [hm, wrap_sm (by omega) (by omega)]; omega
            have hn0 : ¬ (m : Int) < 0 := by omega
            have hl0 : (m : Int) < (v.size : Int) := by omega
            have hs1 := suf47 hm hml
            by_cases h47 : v[m] = 47
            · have t1 : (((v[m].toNat : Nat) : Int) == 47) = true := by simp [h47]
              rw [decide_eq_true h47] at hs1
              cases hq : Lib.hasPrefix (bl fr) (bl v) with
              | false =>
                have hp2 := HT false (by rw [hp, hs1, hq]; rfl)
                have HPR2 : Hid (Calls Tryz.prog 61 #[.string fr, .string v] wr fun e w' => e = .returned (.bool false) ∧ wr = w') := by
                  have := HPR.out; rw [hq] at this; exact this
                clear h1 e1 e2 e3 h3 HT hs1 hp HPR hq h47 hm
                go_wp2_with (go_at_call 61; refine HPR2.out.mono ?_; rintro e w1 ⟨rfl, rfl⟩)
                go_roundw
                case rel => exact ⟨k + 1, hlt, by go_num, HNo.out hp2.out, trivial⟩
                case measure => simp [intOf]; omega
              | true =>
                have hp2 := HT true (by rw [hp, hs1, hq]; rfl)
                have HPR2 : Hid (Calls Tryz.prog 61 #[.string fr, .string v] wr fun e w' => e = .returned (.bool true) ∧ wr = w') := by
                  have := HPR.out; rw [hq] at this; exact this
                clear h1 e1 e2 e3 h3 HT hs1 hp HPR hq h47 hm
                go_wp2_with (go_at_call 61; refine HPR2.out.mono ?_; rintro e w1 ⟨rfl, rfl⟩)
                go_ret
                exact ⟨ret_bool (HYes.out hp2.out).symm, HB0.out⟩
            · have t1 : (((v[m].toNat : Nat) : Int) == 47) = false := by
                rw [beq_eq_false_iff_ne]; intro e
                apply h47
                apply UInt8.toNat_inj.1
                show v[m].toNat = 47
                omega
              rw [decide_eq_false h47] at hs1
              have hp2 := HT false (by rw [hp, hs1]; rfl)
              clear h1 e1 e2 e3 h3 HT hs1 hp HPR h47 hm
              go_wp2_with fail
              go_roundw
              case rel => exact ⟨k + 1, hlt, by go_num, HNo.out hp2.out, trivial⟩
              case measure => simp [intOf]; omega
      · have hkz : ¬ (k : Int) < (vn : Int) := by omega
        have HF : Hid (visT lab vis fr = false) := by
          show _ = _
          rw [HR.out, List.any_eq_false]
          intro y hy
          have := hN.out y (by rw [List.take_of_length_le (by omega)]; exact hy)
          rw [this]; simp
        go_wp2_with fail
        go_ret
        exact ⟨ret_bool HF.out.symm, HB0.out⟩
end Go.Proofs.YtddlohbhchjjhaaGreatDoor

namespace Go.Proofs.YtddlohbhchjjhaaGreatDoor
open Go.RowKit Go.Maps

set_option maxRecDepth 100000 in
set_option maxHeartbeats 16000000 in
theorem lawCycle_any (A : Option Addr) (n c : Nat) (ts : List Tg) (fr : ByteArray) (w : World) (h0 : Sl w w.heap.size 4 A n (flat tgC ts)) (hok : ∀ t ∈ ts, TgOk w w.heap.size t) (hnc : n ≤ c) (hcm : c ≤ maxLen) (hfs : fr.size ≤ maxLen) :
    Calls Tryz.prog 4 #[.slice A n c, .string fr] w (LawEnd w) := by
  have H0 := Lib.hid h0; have HOK := Lib.hid hok
  have HTL := Lib.hid (h0.len tgC_len (by omega))
  clear h0 hok
  have hfm : fr.size ≤ 9223372036854775807 := by unfold maxLen at hfs; exact hfs
  have HGR := Lib.hid (rgreatS_any A n c w.heap.size ts w H0.out HOK.out hnc hcm)
  have hnm : n ≤ 9223372036854775807 := by unfold maxLen at hcm; omega
  go_enter Tryz.func4, Tryz.ntmps4
  go_wp2_with fail
  refine HGR.out.mono ?_
  rintro e w1 ⟨r, rfl, hsm, rfl⟩
  cases r with
  | true =>
    clear hsm
    go_wp2_with fail
    refine (awake_any _).mono ?_
    rintro e wz ⟨rfl, hbz⟩
    have HBz := Lib.hid (hbz); clear hbz
    go_wp2_with fail
    go_ret
    exact ⟨rfl, HBz.out⟩

  | false =>
    obtain ⟨hn12, hsm⟩ := hsm rfl
    have HSM := Lib.hid hsm; clear hsm HGR hfs
    by_cases hl : (100 : Int) < (fr.size : Int)
    · go_wp2_with fail
      refine (awake_any _).mono ?_
      rintro e wz ⟨rfl, hbz⟩
      have HBz := Lib.hid (hbz); clear hbz
      go_wp2_with fail
      go_ret
      exact ⟨rfl, HBz.out⟩

    have hfr : fr.size ≤ 1000000 := by omega
    go_wp2_with fail
    go_loopw [17] (fun i wr => ∃ k : Nat, i = .int .i64 (k : Int) ∧ k ≤ n ∧ Hid (Below w.heap.size w wr)) (fun i _ => n - (intOf i).toNat)
    case atStart => exact ⟨0, rfl, Nat.zero_le _, Below.refl _ _⟩
    case round =>
      obtain ⟨k, rfl, hk, hbw⟩ := hrel
      have zwr := hbw.out.size
      by_cases hlt : k < n
      · have hlz : (k : Int) < (n : Int) := by omega
        obtain ⟨bb, off, t, rfl, hbB, ht, y0, y1, y2, y3⟩ := (H0.out.below hbw.out (Nat.le_refl _)).tg hlt
        have HTM := Lib.hid (List.mem_of_getElem? ht)
        have hlab : t.lab.size ≤ 1000000 := by have := (HSM.out t HTM.out).lab; omega
        obtain ⟨wb, hwb⟩ : ∃ wb, wr.alloc (.cells #[.string t.lab, .int .i64 t.kind, .slice t.dA t.dn t.dc, .slice t.vA t.vn t.vc] 35) = wb := ⟨_, rfl⟩
        have HBb : Hid (Below wr.heap.size wr wb) := by rw [← hwb]; exact (Below.refl _ wr).alloc (Nat.le_refl _) _
        have HKb : Hid (Bk wb wr.heap.size 35 #[.string t.lab, .int .i64 t.kind, .slice t.dA t.dn t.dc, .slice t.vA t.vn t.vc]) := by rw [← hwb]; exact Bk.new wr _ _
        have zwb : wb.heap.size = wr.heap.size + 1 := by rw [← hwb]; simp
        have HBw : Hid (Below w.heap.size w wb) := hbw.out.trans (HBb.out.mono (by omega))
        have HTO : Hid (TgOk wb w.heap.size t) := (HOK.out t HTM.out).below HBw.out (Nat.le_refl _)
        have HV1 : Hid (∀ W, Below wb.heap.size wb W → Calls Tryz.prog 17 #[tgV t, .string fr] W (VsbEnd (visT t.lab t.vis fr) W)) := fun W hW => visible_any t fr w.heap.size W (HTO.out.below hW (by omega)) (by have := hW.size; omega) hlab hfr
        have HV2 : Hid (∀ W, Below wb.heap.size wb W → Calls Tryz.prog 18 #[tgV t, .string fr] W (VsbEnd (visT t.lab t.vis fr) W)) := fun W hW => rvisible_any t fr w.heap.size W (HTO.out.below hW (by omega)) (by have := hW.size; omega) hlab hfr
        have HWb := Lib.hid hwb
        have x0 := HKb.out.cell 0; have x1 := HKb.out.cell 1; have x2 := HKb.out.cell 2; have x3 := HKb.out.cell 3
        simp at x0 x1 x2 x3
        clear hwb ht
        obtain ⟨lab, kind, dA, dn, dc, deps, vA, vn, vc, vis⟩ := t
        simp only [tgV] at HV1 HV2 hlab y0 y1 y2 y3 HWb HKb HTM x0 x1 x2 x3
        generalize visT lab vis fr = mb at HV1 HV2
        have hmb : (mb != mb) = false := by cases mb <;> rfl
        go_wp2_with fail
        rw [HWb.out]
        refine wp_region_stableGD 6 (21 :: 22 :: 23 :: 24 :: 25 :: 26 :: []) (by kernel_rfl) (by kernel_rfl) (by kernel_rfl) (fun W => Below wb.heap.size wb W) (fun W W' => Below W.heap.size W W')
          (vPhi ((.agg #[.string lab, .int .i64 kind, .slice dA dn dc, .slice vA vn vc]) :: (.string fr) :: (.bool mb) :: (.agg #[.string lab, .int .i64 kind, .slice dA dn dc, .slice vA vn vc]) :: (.string fr) :: (.bool mb) :: [])) (fun W W' h1 h2 => h1.trans (h2.mono h1.size)) (fun i v W W' h _ => h) (Below.refl _ _).drew ?stepA ?tailA
        case stepA =>
          intro i o vs W hi ho hv hR hphi
          obtain ⟨v0, v1, v2, v3, v4, v5, rfl⟩ := ls6 hv
          simp only [List.zip, List.zipWith, putAll, Act.put, List.setIfInBounds_toArray, List.set]
          have hWz := hR.size
          have c0 := (hR.cell (p := ⟨wr.heap.size, 0, none⟩) (by show wr.heap.size < _; omega)).trans x0
          have c1 := (hR.cell (p := ⟨wr.heap.size, 1, none⟩) (by show wr.heap.size < _; omega)).trans x1
          have c2 := (hR.cell (p := ⟨wr.heap.size, 2, none⟩) (by show wr.heap.size < _; omega)).trans x2
          have c3 := (hR.cell (p := ⟨wr.heap.size, 3, none⟩) (by show wr.heap.size < _; omega)).trans x3
          match i, hi, ho with
          | 0, _, rfl =>
            exact .inl ⟨rfl, gives_value (v := .agg #[.string lab, .int .i64 kind, .slice dA dn dc, .slice vA vn vc]) (w' := W) (by go_simp) ⟨Below.refl _ _, fun u hu => by cases hu; rfl⟩⟩
          | 1, _, rfl =>
            exact .inl ⟨rfl, gives_value (v := .string fr) (w' := W) (by go_simp) ⟨Below.refl _ _, fun u hu => by cases hu; rfl⟩⟩
          | 2, _, rfl =>
            have e0 : v0 = _ := hphi ⟨0, .data⟩ (by simp) rfl v0 rfl _ rfl
            have e1 : v1 = _ := hphi ⟨1, .data⟩ (by simp) rfl v1 rfl _ rfl
            subst e0 e1
            refine .inl ⟨rfl, gives_call (f := 17) (args := #[.agg #[.string lab, .int .i64 kind, .slice dA dn dc, .slice vA vn vc], .string fr]) (by go_simp) ((HV1.out W hR).mono ?_)⟩
            rintro e W' ⟨rfl, hb2⟩
            exact ⟨_, rfl, hb2, fun u hu => by cases hu; rfl⟩
          | 3, _, rfl =>
            exact .inl ⟨rfl, gives_value (v := .agg #[.string lab, .int .i64 kind, .slice dA dn dc, .slice vA vn vc]) (w' := W) (by go_simp) ⟨Below.refl _ _, fun u hu => by cases hu; rfl⟩⟩
          | 4, _, rfl =>
            exact .inl ⟨rfl, gives_value (v := .string fr) (w' := W) (by go_simp) ⟨Below.refl _ _, fun u hu => by cases hu; rfl⟩⟩
          | 5, _, rfl =>
            have e3 : v3 = _ := hphi ⟨3, .data⟩ (by simp) rfl v3 rfl _ rfl
            have e4 : v4 = _ := hphi ⟨4, .data⟩ (by simp) rfl v4 rfl _ rfl
            subst e3 e4
            refine .inl ⟨rfl, gives_call (f := 18) (args := #[.agg #[.string lab, .int .i64 kind, .slice dA dn dc, .slice vA vn vc], .string fr]) (by go_simp) ((HV2.out W hR).mono ?_)⟩
            rintro e W' ⟨rfl, hb2⟩
            exact ⟨_, rfl, hb2, fun u hu => by cases hu; rfl⟩
          | i + 6, hi, _ => exact absurd hi (by omega)
        case tailA =>
          intro vs W hv hR hphi
          obtain ⟨v0, v1, v2, v3, v4, v5, rfl⟩ := ls6 hv
          simp only [List.zip, List.zipWith, putAll, Act.put, List.setIfInBounds_toArray, List.set, List.drop]
          have e0 : v0 = _ := hphi 0 v0 rfl _ rfl
          have e1 : v1 = _ := hphi 1 v1 rfl _ rfl
          have e2 : v2 = _ := hphi 2 v2 rfl _ rfl
          have e3 : v3 = _ := hphi 3 v3 rfl _ rfl
          have e4 : v4 = _ := hphi 4 v4 rfl _ rfl
          have e5 : v5 = _ := hphi 5 v5 rfl _ rfl
          subst e0 e1 e2 e3 e4 e5
          clear hphi hv
          have HBz : Hid (Below w.heap.size w W) := HBw.out.trans (hR.mono (by omega))
          clear hR
          go_wp2_with fail
          go_roundw
          case rel => exact ⟨k + 1, by go_num, hlt, HBz.out⟩
          case measure => simp [intOf]; omega
      · have hlz : ¬ (k : Int) < (n : Int) := by omega
        have HDM : Hid (∀ t ∈ ts, t.deps.length ≤ 1000) := fun t ht => by have := (HSM.out t ht).dn; omega
        have HC1 := Lib.hid (cycle_any A n c w.heap.size 1000 ts wr (H0.out.below hbw.out (Nat.le_refl _)) (fun t ht => (HOK.out t ht).below hbw.out (Nat.le_refl _)) zwr (by omega) HDM.out (by omega))
        go_wp2_with (go_at_call 20; refine HC1.out.mono ?_; rintro e w2 ⟨A2, m2, c2, l2, rfl, hs, hr, hb⟩; refine halt_ ?_)
        refine unhalt ?_
        have HB2 : Hid (Below w.heap.size w w2) := hbw.out.trans (hb.mono zwr)
        have S2 := Lib.hid hs
        have HR2 := Lib.hid hr.toR
        clear hs hr hb HC1
        have HC2 := Lib.hid (rcycle_any A n c w.heap.size ts w2 (H0.out.below HB2.out (Nat.le_refl _)) (fun t ht => (HOK.out t ht).below HB2.out (Nat.le_refl _)) HB2.out.size (by omega))
        go_wp2_with (go_at_call 21; refine HC2.out.mono ?_; rintro e w3 ⟨A3, m3, c3, l3, rfl, hs, hm, hc, hr, hb⟩; refine halt_ ?_)
        refine unhalt ?_
        have HB3 : Hid (Below w.heap.size w w3) := HB2.out.trans (hb.mono HB2.out.size)
        have S23 := Lib.hid (S2.out.on hb)
        have S3 := Lib.hid hs; have M3 := Lib.hid (Nat.le_trans hm hc)
        have HEQ := Lib.hid (HR2.out.uniq hr)
        have HM : Hid (m2 ≤ maxLen) := by
          have h1 := S23.out.1; have h2 := S3.out.1; rw [strs_len] at h1 h2
          have h3 := congrArg List.length HEQ.out
          have := M3.out
          show _ ≤ _; omega
        have HSA : Hid (Calls Tryz.prog 19 #[.slice A2 m2 c2, .slice A3 m3 c3] w3 fun e w' => e = .returned (.bool true) ∧ ∃ k, w' = w3.drewN k) := (sameS_any A2 A3 m2 c2 m3 c3 w3.heap.size l2 l3 w3 S23.out S3.out HM.out).mono fun e w' h => ⟨h.1.trans (ret_bool (decide_eq_true HEQ.out)), h.2⟩
        clear hs hm hc hr hb HC2
        go_wp2_with (go_at_call 19; refine HSA.out.mono ?_; rintro e w4 ⟨rfl, q, rfl⟩; refine halt_ ?_)
        refine unhalt ?_
        have HB4 : Hid (Below w.heap.size w (w3.drewN q)) := below_drewN HB3.out q
        go_wp2_with fail
        refine (awake_any _).mono ?_
        rintro e wz ⟨rfl, hbz⟩
        have HBz := Lib.hid (HB4.out.trans (hbz.mono HB4.out.size)); clear hbz
        go_wp2_with fail
        go_ret
        exact ⟨rfl, HBz.out⟩
end Go.Proofs.YtddlohbhchjjhaaGreatDoor
