/-
  Lemmas: ActionKey.
-/
import Derived.Test.YtiphbincnnppdaaGreatDoorU9

namespace Go.Proofs.YtiphbincnnppdaaGreatDoor
open Go.RowKit Go.Maps

theorem smallA_sizes {lab : ByteArray} {fs : List Ipt} (h : SmallA lab fs) : fs.length ≤ 20 ∧ lab.size ≤ 200 ∧ ∀ f ∈ fs, f.1.size ≤ maxLen := ⟨h.1, h.2.1, fun f hf => by have := h.2.2 f hf; unfold maxLen; omega⟩
set_option maxRecDepth 100000 in
set_option maxHeartbeats 8000000 in
theorem lawKey_any (kind : Int) (lab : ByteArray) (A : Option Addr) (n c B : Nat) (fs : List Ipt) (w : World) (h0 : Sl w B 3 A n (flat ipC fs)) (hB : B ≤ w.heap.size) (hwf : ∀ f ∈ fs, WfD f.2) :
    Calls Tryz.prog 4 #[.agg #[.int .i64 kind, .string lab, .slice A n c]] w (LawEnd w) := by
  have HL := Lib.hid (h0.len ipC_len (by omega))
  obtain ⟨W, hW⟩ : ∃ W, w.alloc (.cells #[.int .i64 kind, .string lab, .slice A n c] 31) = W := ⟨_, rfl⟩
  have HB0 : Hid (Below w.heap.size w W) := by rw [← hW]; exact (Below.refl w.heap.size w).alloc (Nat.le_refl _) _
  have K0 : Hid (Bk W w.heap.size 31 #[.int .i64 kind, .string lab, .slice A n c]) := by rw [← hW]; exact Bk.new w _ _
  have zW : W.heap.size = w.heap.size + 1 := by rw [← hW]; simp
  have u0 := K0.out.cell 0; have u1 := K0.out.cell 1; have u2 := K0.out.cell 2
  simp at u0 u1 u2
  have H0 := Lib.hid h0; have HWF := Lib.hid hwf
  have HGR := Lib.hid (greatA_any kind lab A n c B fs W (h0.below HB0.out hB) (by omega))
  clear h0 hwf
  go_enter Tryz.func4, Tryz.ntmps4
  go_wp2_with fail
  refine HGR.out.mono ?_
  rintro e w1 ⟨rfl, hb1⟩
  have z1 := hb1.size
  have HB1 : Hid (Below w.heap.size w w1) := HB0.out.trans (hb1.mono (by omega))
  have K1 := Lib.hid (K0.out.below hb1 (by omega))
  clear u0 u1 u2 hb1 hW HGR K0
  by_cases hsm : SmallA lab fs
  · rw [decide_eq_true hsm]
    obtain ⟨hn20, hl200, hnm⟩ := smallA_sizes hsm
    rw [HL.out] at hn20
    have HNM := Lib.hid hnm
    clear hsm hnm
    have u0 := K1.out.cell 0; have u1 := K1.out.cell 1; have u2 := K1.out.cell 2
    simp at u0 u1 u2
    have HK1 := Lib.hid (key_any kind lab A n c B fs w1 (H0.out.below HB1.out hB) (by omega) (by unfold maxLen; omega) (by unfold maxLen; omega) HNM.out HWF.out)
    go_wp2_with fail
    refine HK1.out.mono ?_
    rintro e w2 ⟨rfl, hb2⟩
    have z2 := hb2.size
    obtain ⟨W3, hW3⟩ : ∃ W3, w2.alloc (.cells #[.int .u64 (keyR kind lab fs).1.1, .int .u64 (keyR kind lab fs).1.2] 42) = W3 := ⟨_, rfl⟩
    have zW3 : W3.heap.size = w2.heap.size + 1 := by rw [← hW3]; simp
    have HB3 : Hid (Below w.heap.size w W3) := by rw [← hW3]; exact (HB1.out.trans (hb2.mono (by omega))).alloc (by omega) _
    have K3 : Hid (Bk W3 w.heap.size 31 #[.int .i64 kind, .string lab, .slice A n c]) := by rw [← hW3]; exact (K1.out.below hb2 (by omega)).alloc _
    have D3 : Hid (Bk W3 w2.heap.size 42 #[.int .u64 (keyR kind lab fs).1.1, .int .u64 (keyR kind lab fs).1.2]) := by rw [← hW3]; exact Bk.new w2 _ _
    have HK2 := Lib.hid (rkey_any kind lab A n c B fs W3 (H0.out.below HB3.out hB) (by have := HB3.out.size; omega) (by unfold maxLen; omega) (by unfold maxLen; omega) HNM.out HWF.out)
    have HKE : Hid (∀ W e w', KeyEnd kind lab fs W e w' → e = .returned (.tuple #[.agg #[.int .u64 (keyR kind lab fs).1.1, .int .u64 (keyR kind lab fs).1.2], .int .i64 (keyR kind lab fs).2]) ∧ Below W.heap.size W w') := fun W e w' h => h
    have HCK0 : Hid (∃ ck, ck = chkA kind lab fs) := ⟨_, rfl⟩
    clear hb2 HK1 u0 u1 u2 K1 HB1
    have HW3 := Lib.hid hW3
    clear hW3
    simp only [digV]
    obtain ⟨x0, x1, ez, hx⟩ : ∃ x0 x1 ez, keyR kind lab fs = ((x0, x1), ez) := ⟨_, _, _, rfl⟩
    rw [hx] at HW3 D3 HKE ⊢
    simp only at HW3 D3 HKE ⊢
    have u0 := K3.out.cell 0; have u1 := K3.out.cell 1; have u2 := K3.out.cell 2
    simp at u0 u1 u2
    have hW3 := HW3.out
    go_wp2_with fail
    refine HK2.out.mono ?_
    rintro e w3 hke
    obtain ⟨rfl, hb3⟩ := HKE.out _ _ _ hke
    clear hke
    have z3 := hb3.size
    obtain ⟨W4, hW4⟩ : ∃ W4, w3.alloc (.cells #[.int .u64 x0, .int .u64 x1] 42) = W4 := ⟨_, rfl⟩
    have zW4 : W4.heap.size = w3.heap.size + 1 := by rw [← hW4]; simp
    have HB4 : Hid (Below w.heap.size w W4) := by rw [← hW4]; exact (HB3.out.trans (hb3.mono HB3.out.size)).alloc (by have := HB3.out.size; omega) _
    have K4 : Hid (Bk W4 w.heap.size 31 #[.int .i64 kind, .string lab, .slice A n c]) := by rw [← hW4]; exact (K3.out.below hb3 K3.out.lt).alloc _
    have D4 : Hid (Bk W4 w2.heap.size 42 #[.int .u64 x0, .int .u64 x1]) := by rw [← hW4]; exact (D3.out.below hb3 (by omega)).alloc _
    have E4 : Hid (Bk W4 w3.heap.size 42 #[.int .u64 x0, .int .u64 x1]) := by rw [← hW4]; exact Bk.new w3 _ _
    obtain ⟨ck, hck⟩ : ∃ ck, chkA kind lab fs = ck := ⟨_, rfl⟩
    have HCK := Lib.hid hck
    clear hck hb3 HK2 u0 u1 u2 K3 D3 HB3 hW3 HW3 hx HKE HCK0
    have u0 := K4.out.cell 0; have u1 := K4.out.cell 1; have u2 := K4.out.cell 2
    simp at u0 u1 u2
    have p0 := D4.out.cell 0; have p1 := D4.out.cell 1; have r0 := E4.out.cell 0; have r1 := E4.out.cell 1
    simp at p0 p1 r0 r1
    have hoz := K4.out.lt
    have hw4 := HB4.out.size
    go_wp2_with fail
    refine wp_region_stableGD 18 (20 :: 21 :: 22 :: 23 :: 24 :: 25 :: 26 :: 27 :: 28 :: 29 :: 30 :: 31 :: 32 :: 33 :: 34 :: 35 :: 36 :: 37 :: []) (by kernel_rfl) (by kernel_rfl) (by kernel_rfl) (fun W => Below W4.heap.size W4 W) (fun W W' => Below W.heap.size W W')
      (vPhi ((.agg #[.int .i64 kind, .string lab, .slice A n c]) :: (.int .i64 ck) :: (.agg #[.int .i64 kind, .string lab, .slice A n c]) :: (.int .i64 ck) :: (.bool true) :: (.bool true) :: (.agg #[.int .u64 x0, .int .u64 x1]) :: (.agg #[.int .u64 x0, .int .u64 x1]) :: (.bool true) :: (.bool true) :: (.bool true) :: (.int .i64 ez) :: (.int .i64 ez) :: (.bool true) :: (.bool true) :: (.bool true) :: (.bool true) :: (.bool true) :: [])) (fun W W' h1 h2 => h1.trans (h2.mono h1.size)) (fun i v W W' h _ => h) (Below.refl _ _).drew ?stepA ?tailA
    case stepA =>
      intro i o vs W hi ho hv hR hphi
      obtain ⟨v0, v1, v2, v3, v4, v5, v6, v7, v8, v9, v10, v11, v12, v13, v14, v15, v16, v17, rfl⟩ := list18 hv
      simp only [List.zip, List.zipWith, putAll, Act.put, List.setIfInBounds_toArray, List.set]
      have hWz := hR.size
      have l0 := (hR.cell (p := ⟨w.heap.size, 0, none⟩) (by show w.heap.size < _; omega)).trans u0
      have l1 := (hR.cell (p := ⟨w.heap.size, 1, none⟩) (by show w.heap.size < _; omega)).trans u1
      have l2 := (hR.cell (p := ⟨w.heap.size, 2, none⟩) (by show w.heap.size < _; omega)).trans u2
      have m0 := (hR.cell (p := ⟨w2.heap.size, 0, none⟩) (by show w2.heap.size < _; omega)).trans p0
      have m1 := (hR.cell (p := ⟨w2.heap.size, 1, none⟩) (by show w2.heap.size < _; omega)).trans p1
      have q0 := (hR.cell (p := ⟨w3.heap.size, 0, none⟩) (by show w3.heap.size < _; omega)).trans r0
      have q1 := (hR.cell (p := ⟨w3.heap.size, 1, none⟩) (by show w3.heap.size < _; omega)).trans r1
      match i, hi, ho with
      | 0, _, rfl =>
        exact .inl ⟨rfl, gives_value (v := .agg #[.int .i64 kind, .string lab, .slice A n c]) (w' := W) (by go_simp) ⟨Below.refl _ _, fun u hu => by cases hu; rfl⟩⟩
      | 1, _, rfl =>
        have e0 : v0 = _ := hphi ⟨0, .data⟩ (by simp) rfl v0 rfl _ rfl
        subst e0
        refine .inl ⟨rfl, gives_call (f := 16) (args := #[.agg #[.int .i64 kind, .string lab, .slice A n c]]) (by go_simp) ((check_any kind lab A n c B fs W ((H0.out.below HB4.out hB).below hR (by omega)) (by omega) (by unfold maxLen; omega) (by unfold maxLen; omega) HNM.out).mono ?_)⟩
        rintro e W' ⟨rfl, hb'⟩
        exact ⟨_, rfl, hb', fun u hu => by cases hu; rw [HCK.out]⟩
      | 2, _, rfl =>
        exact .inl ⟨rfl, gives_value (v := .agg #[.int .i64 kind, .string lab, .slice A n c]) (w' := W) (by go_simp) ⟨Below.refl _ _, fun u hu => by cases hu; rfl⟩⟩
      | 3, _, rfl =>
        have e2 : v2 = _ := hphi ⟨2, .data⟩ (by simp) rfl v2 rfl _ rfl
        subst e2
        refine .inl ⟨rfl, gives_call (f := 17) (args := #[.agg #[.int .i64 kind, .string lab, .slice A n c]]) (by go_simp) ((rcheck_any kind lab A n c B fs W ((H0.out.below HB4.out hB).below hR (by omega)) (by omega) (by unfold maxLen; omega) (by unfold maxLen; omega) HNM.out).mono ?_)⟩
        rintro e W' ⟨rfl, hb'⟩
        exact ⟨_, rfl, hb', fun u hu => by cases hu; rw [HCK.out]⟩
      | 4, _, rfl =>
        have e1 : v1 = _ := hphi ⟨1, .data⟩ (by simp) rfl v1 rfl _ rfl
        have e3 : v3 = _ := hphi ⟨3, .data⟩ (by simp) rfl v3 rfl _ rfl
        subst e1 e3
        exact .inl ⟨rfl, gives_value (v := .bool true) (w' := W) (by go_simp) ⟨Below.refl _ _, fun u hu => by cases hu; rfl⟩⟩
      | 5, _, rfl =>
        have e4 : v4 = _ := hphi ⟨4, .data⟩ (by simp) rfl v4 rfl _ rfl
        subst e4
        exact .inl ⟨rfl, gives_value (v := .bool true) (w' := W) (by go_simp) ⟨Below.refl _ _, fun u hu => by cases hu; rfl⟩⟩
      | 6, _, rfl =>
        have e5 : v5 = _ := hphi ⟨5, .guard⟩ (by simp) rfl v5 rfl _ rfl
        subst e5
        exact .inl ⟨rfl, gives_value (v := .agg #[.int .u64 x0, .int .u64 x1]) (w' := W) (by go_simp) ⟨Below.refl _ _, fun u hu => by cases hu; rfl⟩⟩
      | 7, _, rfl =>
        have e5 : v5 = _ := hphi ⟨5, .guard⟩ (by simp) rfl v5 rfl _ rfl
        subst e5
        exact .inl ⟨rfl, gives_value (v := .agg #[.int .u64 x0, .int .u64 x1]) (w' := W) (by go_simp) ⟨Below.refl _ _, fun u hu => by cases hu; rfl⟩⟩
      | 8, _, rfl =>
        have e6 : v6 = _ := hphi ⟨6, .data⟩ (by simp) rfl v6 rfl _ rfl
        have e7 : v7 = _ := hphi ⟨7, .data⟩ (by simp) rfl v7 rfl _ rfl
        have e5 : v5 = _ := hphi ⟨5, .guard⟩ (by simp) rfl v5 rfl _ rfl
        subst e5 e6 e7
        exact .inl ⟨rfl, gives_value (v := .bool true) (w' := W) (by go_simp) ⟨Below.refl _ _, fun u hu => by cases hu; rfl⟩⟩
      | 9, _, rfl =>
        have e5 : v5 = _ := hphi ⟨5, .data⟩ (by simp) rfl v5 rfl _ rfl
        have e8 : v8 = _ := hphi ⟨8, .data⟩ (by simp) rfl v8 rfl _ rfl
        subst e5 e8
        exact .inl ⟨rfl, gives_value (v := .bool true) (w' := W) (by go_simp) ⟨Below.refl _ _, fun u hu => by cases hu; rfl⟩⟩
      | 10, _, rfl =>
        have e9 : v9 = _ := hphi ⟨9, .data⟩ (by simp) rfl v9 rfl _ rfl
        subst e9
        exact .inl ⟨rfl, gives_value (v := .bool true) (w' := W) (by go_simp) ⟨Below.refl _ _, fun u hu => by cases hu; rfl⟩⟩
      | 11, _, rfl =>
        have e10 : v10 = _ := hphi ⟨10, .guard⟩ (by simp) rfl v10 rfl _ rfl
        subst e10
        exact .inl ⟨rfl, gives_value (v := .int .i64 ez) (w' := W) (by go_simp) ⟨Below.refl _ _, fun u hu => by cases hu; rfl⟩⟩
      | 12, _, rfl =>
        have e10 : v10 = _ := hphi ⟨10, .guard⟩ (by simp) rfl v10 rfl _ rfl
        subst e10
        exact .inl ⟨rfl, gives_value (v := .int .i64 ez) (w' := W) (by go_simp) ⟨Below.refl _ _, fun u hu => by cases hu; rfl⟩⟩
      | 13, _, rfl =>
        have e11 : v11 = _ := hphi ⟨11, .data⟩ (by simp) rfl v11 rfl _ rfl
        have e12 : v12 = _ := hphi ⟨12, .data⟩ (by simp) rfl v12 rfl _ rfl
        have e10 : v10 = _ := hphi ⟨10, .guard⟩ (by simp) rfl v10 rfl _ rfl
        subst e10 e11 e12
        exact .inl ⟨rfl, gives_value (v := .bool true) (w' := W) (by go_simp) ⟨Below.refl _ _, fun u hu => by cases hu; rfl⟩⟩
      | 14, _, rfl =>
        have e10 : v10 = _ := hphi ⟨10, .data⟩ (by simp) rfl v10 rfl _ rfl
        have e13 : v13 = _ := hphi ⟨13, .data⟩ (by simp) rfl v13 rfl _ rfl
        subst e10 e13
        exact .inl ⟨rfl, gives_value (v := .bool true) (w' := W) (by go_simp) ⟨Below.refl _ _, fun u hu => by cases hu; rfl⟩⟩
      | 15, _, rfl =>
        have e14 : v14 = _ := hphi ⟨14, .data⟩ (by simp) rfl v14 rfl _ rfl
        subst e14
        exact .inl ⟨rfl, gives_value (v := .bool true) (w' := W) (by go_simp) ⟨Below.refl _ _, fun u hu => by cases hu; rfl⟩⟩
      | 16, _, rfl =>
        have e15 : v15 = _ := hphi ⟨15, .guard⟩ (by simp) rfl v15 rfl _ rfl
        subst e15
        refine .inl ⟨rfl, gives_call (f := 9) (args := #[]) (by go_simp) ((awake_any W).mono ?_)⟩
        rintro e W' ⟨rfl, hb'⟩
        exact ⟨_, rfl, hb', fun u hu => by cases hu; rfl⟩
      | 17, _, rfl =>
        have e15 : v15 = _ := hphi ⟨15, .data⟩ (by simp) rfl v15 rfl _ rfl
        have e16 : v16 = _ := hphi ⟨16, .data⟩ (by simp) rfl v16 rfl _ rfl
        subst e15 e16
        exact .inl ⟨rfl, gives_value (v := .bool true) (w' := W) (by go_simp) ⟨Below.refl _ _, fun u hu => by cases hu; rfl⟩⟩
      | i + 18, hi, _ => exact absurd hi (by omega)
    case tailA =>
      intro vs W hv hR hphi
      obtain ⟨v0, v1, v2, v3, v4, v5, v6, v7, v8, v9, v10, v11, v12, v13, v14, v15, v16, v17, rfl⟩ := list18 hv
      simp only [List.zip, List.zipWith, putAll, Act.put, List.setIfInBounds_toArray, List.set, List.drop]
      have e0 : v0 = _ := hphi 0 v0 rfl _ rfl
      have e1 : v1 = _ := hphi 1 v1 rfl _ rfl
      have e2 : v2 = _ := hphi 2 v2 rfl _ rfl
      have e3 : v3 = _ := hphi 3 v3 rfl _ rfl
      have e4 : v4 = _ := hphi 4 v4 rfl _ rfl
      have e5 : v5 = _ := hphi 5 v5 rfl _ rfl
      have e6 : v6 = _ := hphi 6 v6 rfl _ rfl
      have e7 : v7 = _ := hphi 7 v7 rfl _ rfl
      have e8 : v8 = _ := hphi 8 v8 rfl _ rfl
      have e9 : v9 = _ := hphi 9 v9 rfl _ rfl
      have e10 : v10 = _ := hphi 10 v10 rfl _ rfl
      have e11 : v11 = _ := hphi 11 v11 rfl _ rfl
      have e12 : v12 = _ := hphi 12 v12 rfl _ rfl
      have e13 : v13 = _ := hphi 13 v13 rfl _ rfl
      have e14 : v14 = _ := hphi 14 v14 rfl _ rfl
      have e15 : v15 = _ := hphi 15 v15 rfl _ rfl
      have e16 : v16 = _ := hphi 16 v16 rfl _ rfl
      have e17 : v17 = _ := hphi 17 v17 rfl _ rfl
      subst e0 e1 e2 e3 e4 e5 e6 e7 e8 e9 e10 e11 e12 e13 e14 e15 e16 e17
      have HB5 : Hid (Below w.heap.size w W) := HB4.out.trans (hR.mono (by omega))
      clear hR
      go_wp2_with fail
      go_ret
      exact ⟨rfl, HB5.out⟩
  · rw [decide_eq_false hsm]
    clear hsm
    go_wp2_with fail
    refine (awake_any _).mono ?_
    rintro e w2 ⟨rfl, hb2⟩
    have HB2 := Lib.hid (HB1.out.trans (hb2.mono (by omega))); clear hb2
    go_wp2_with fail
    go_ret
    exact ⟨rfl, HB2.out⟩
end Go.Proofs.YtiphbincnnppdaaGreatDoor
