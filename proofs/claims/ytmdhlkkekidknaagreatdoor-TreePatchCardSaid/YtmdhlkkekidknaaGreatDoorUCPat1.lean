/-
  Lemmas: The reference's Opposite and GreatChanges. TreePatch: the law.
-/
import Derived.Deep.QuietTactic
import Derived.BigQuiet
import Derived.Test.YtmdhlkkekidknaaGreatDoorU11

namespace Go.Proofs.YtmdhlkkekidknaaGreatDoor
open Go.RowKit

def FcsE (l : List FCh) (w : World) (e : Ending) (w' : World) : Prop := ∃ A c, e = .returned (.slice A l.length c) ∧ Sl w' w'.heap.size 5 A l.length (flat fcC l) ∧ l.length ≤ c ∧ c ≤ maxLen ∧ Below w.heap.size w w'
theorem fcC_one (l : List FCh) : ∀ u ∈ flat fcC l, u.oneCell' = true := fun u hu => by
  unfold flat at hu
  obtain ⟨i, _, h⟩ := List.mem_flatMap.1 hu
  simp [fcC] at h
  rcases h with rfl | rfl | rfl | rfl | rfl <;> rfl
set_option maxRecDepth 100000 in
set_option maxHeartbeats 8000000 in
theorem opp9_any (A : Option Addr) (n c B : Nat) (l : List FCh) (w : World) (h0 : Sl w B 5 A n (flat fcC l)) (hB : B ≤ w.heap.size) (hn : n ≤ 1000000) :
    Calls Tryz.prog 41 #[.slice A n c] w (FcsE (l.map oppC) w) := by
  have HL := Lib.hid (h0.len fcC_len (by omega))
  have H0 := Lib.hid h0; clear h0
  obtain ⟨i0, hi, hz0, hz1, hz2⟩ := info_parts infoFC
  have Hi := Lib.hid hi; have Hz0 := Lib.hid hz0; have Hz1 := Lib.hid hz1; have Hz2 := Lib.hid hz2
  clear hi hz0 hz1 hz2
  go_enter Tryz.func41, Tryz.ntmps41
  go_wp2_with fail
  go_loopw [3, 4] (fun q i wr => ∃ (k : Nat) (A' : Option Addr) (c' : Nat), k ≤ n ∧ i = .int .i64 (k : Int) ∧ q = .slice A' k c' ∧ k ≤ c' ∧ c' ≤ maxLen ∧ Hid (Apd wr w.heap.size 112 5 A' k c' (flat fcC ((l.take k).map oppC))) ∧ Hid (Below w.heap.size w wr)) (fun _ i _ => n - (intOf i).toNat)
  case atStart => exact ⟨0, _, 0, Nat.zero_le _, rfl, rfl, Nat.le_refl _, Nat.zero_le _, .inr ⟨rfl, rfl, by rw [List.take_zero]; rfl⟩, (Below.refl _ w).alloc (Nat.le_refl _) _⟩
  case round =>
    obtain ⟨k, A', c', hk, rfl, rfl, hmc, hcm, hO, hBel⟩ := hrel
    by_cases hlt : k < n
    · have hlz : (k : Int) < (n : Int) := by omega
      obtain ⟨b, off, x, rfl, hb, hx, y0, y1, y2, y3, y4⟩ := (H0.out.below hBel.out hB).fc hlt
      have HTK := Lib.hid (take_snoc hx)
      have HO := Lib.hid hO.out; have HBE := Lib.hid hBel.out
      clear hx hO hBel
      have zr : w.heap.size ≤ wr.heap.size := HBE.out.size
      obtain ⟨xp, xo, xn, xa, xb⟩ := x
      simp only at y0 y1 y2 y3 y4
      go_wp2_with fail
      refine wp_region_stableGD 28 (12 :: 13 :: 14 :: 15 :: 16 :: 17 :: 18 :: 19 :: 20 :: 21 :: 22 :: 23 :: 24 :: 25 :: 26 :: 27 :: 28 :: 29 :: 30 :: 31 :: 32 :: 33 :: 34 :: 35 :: 36 :: 37 :: 38 :: 39 :: []) (by kernel_rfl) (by kernel_rfl) (by kernel_rfl) (fun W => Below wr.heap.size wr W) (fun W W' => Below W.heap.size W W')
        (asPhi 27 ((.slice A' k c') :: (.slice (some ⟨b, off, none⟩) n c) :: (.int .i64 (k : Int)) :: (.pointer (some ⟨b, off + k * 5, none⟩)) :: (.pointer (some ⟨b, off + k * 5, none⟩)) :: (.string xp) :: (.slice (some ⟨b, off, none⟩) n c) :: (.int .i64 (k : Int)) :: (.pointer (some ⟨b, off + k * 5, none⟩)) :: (.pointer (some ⟨b, off + k * 5 + 2, none⟩)) :: (.bool xn) :: (.slice (some ⟨b, off, none⟩) n c) :: (.int .i64 (k : Int)) :: (.pointer (some ⟨b, off + k * 5, none⟩)) :: (.pointer (some ⟨b, off + k * 5 + 1, none⟩)) :: (.bool xo) :: (.slice (some ⟨b, off, none⟩) n c) :: (.int .i64 (k : Int)) :: (.pointer (some ⟨b, off + k * 5, none⟩)) :: (.pointer (some ⟨b, off + k * 5 + 4, none⟩)) :: (.string xb) :: (.slice (some ⟨b, off, none⟩) n c) :: (.int .i64 (k : Int)) :: (.pointer (some ⟨b, off + k * 5, none⟩)) :: (.pointer (some ⟨b, off + k * 5 + 3, none⟩)) :: (.string xa) :: (.agg #[.string xp, .bool xn, .bool xo, .string xb, .string xa]) :: (undef) :: []) wr.heap.size 112 #[.string xp, .bool xn, .bool xo, .string xb, .string xa]) (fun W W' h1 h2 => h1.trans (h2.mono h1.size)) (fun i v W W' h hb => asPhi_keep i v W W' h hb) (Below.refl _ _).drew ?stepO ?tailO
      case stepO =>
        intro i o vs W hi ho hv hR hphi
        obtain ⟨v0, v1, v2, v3, v4, v5, v6, v7, v8, v9, v10, v11, v12, v13, v14, v15, v16, v17, v18, v19, v20, v21, v22, v23, v24, v25, v26, v27, rfl⟩ := ls28 hv
        simp only [List.zip, List.zipWith, putAll, Act.put, List.setIfInBounds_toArray, List.set]
        have hWz := hR.size
        have g0 := (hR.cell (p := ⟨b, off + k * 5, none⟩) (by show b < _; omega)).trans y0
        have g1 := (hR.cell (p := ⟨b, off + k * 5 + 1, none⟩) (by show b < _; omega)).trans y1
        have g2 := (hR.cell (p := ⟨b, off + k * 5 + 2, none⟩) (by show b < _; omega)).trans y2
        have g3 := (hR.cell (p := ⟨b, off + k * 5 + 3, none⟩) (by show b < _; omega)).trans y3
        have g4 := (hR.cell (p := ⟨b, off + k * 5 + 4, none⟩) (by show b < _; omega)).trans y4
        match i, hi, ho with
        | 0, _, rfl =>
          exact .inl ⟨rfl, gives_value (v := .slice A' k c') (w' := W) (by go_simp) ⟨Below.refl _ _, fun u hu => by cases hu; rfl⟩⟩
        | 1, _, rfl =>
          exact .inl ⟨rfl, gives_value (v := .slice (some ⟨b, off, none⟩) n c) (w' := W) (by go_simp) ⟨Below.refl _ _, fun u hu => by cases hu; rfl⟩⟩
        | 2, _, rfl =>
          exact .inl ⟨rfl, gives_value (v := .int .i64 (k : Int)) (w' := W) (by go_simp) ⟨Below.refl _ _, fun u hu => by cases hu; rfl⟩⟩
        | 3, _, rfl =>
          have e1 : v1 = _ := hphi ⟨1, .data⟩ (by simp) rfl v1 rfl _ rfl
          have e2 : v2 = _ := hphi ⟨2, .data⟩ (by simp) rfl v2 rfl _ rfl
          subst e1 e2
          exact .inl ⟨rfl, gives_value (v := .pointer (some ⟨b, off + k * 5, none⟩)) (w' := W) (by go_simp) ⟨Below.refl _ _, fun u hu => by cases hu; rfl⟩⟩
        | 4, _, rfl =>
          have e3 : v3 = _ := hphi ⟨3, .data⟩ (by simp) rfl v3 rfl _ rfl
          subst e3
          exact .inl ⟨rfl, gives_value (v := .pointer (some ⟨b, off + k * 5, none⟩)) (w' := W) (by go_simp) ⟨Below.refl _ _, fun u hu => by cases hu; rfl⟩⟩
        | 5, _, rfl =>
          have e4 : v4 = _ := hphi ⟨4, .data⟩ (by simp) rfl v4 rfl _ rfl
          subst e4
          exact .inl ⟨rfl, gives_value (v := .string xp) (w' := W) (by go_simp) ⟨Below.refl _ _, fun u hu => by cases hu; rfl⟩⟩
        | 6, _, rfl =>
          exact .inl ⟨rfl, gives_value (v := .slice (some ⟨b, off, none⟩) n c) (w' := W) (by go_simp) ⟨Below.refl _ _, fun u hu => by cases hu; rfl⟩⟩
        | 7, _, rfl =>
          exact .inl ⟨rfl, gives_value (v := .int .i64 (k : Int)) (w' := W) (by go_simp) ⟨Below.refl _ _, fun u hu => by cases hu; rfl⟩⟩
        | 8, _, rfl =>
          have e6 : v6 = _ := hphi ⟨6, .data⟩ (by simp) rfl v6 rfl _ rfl
          have e7 : v7 = _ := hphi ⟨7, .data⟩ (by simp) rfl v7 rfl _ rfl
          subst e6 e7
          exact .inl ⟨rfl, gives_value (v := .pointer (some ⟨b, off + k * 5, none⟩)) (w' := W) (by go_simp) ⟨Below.refl _ _, fun u hu => by cases hu; rfl⟩⟩
        | 9, _, rfl =>
          have e8 : v8 = _ := hphi ⟨8, .data⟩ (by simp) rfl v8 rfl _ rfl
          subst e8
          exact .inl ⟨rfl, gives_value (v := .pointer (some ⟨b, off + k * 5 + 2, none⟩)) (w' := W) (by go_simp) ⟨Below.refl _ _, fun u hu => by cases hu; rfl⟩⟩
        | 10, _, rfl =>
          have e9 : v9 = _ := hphi ⟨9, .data⟩ (by simp) rfl v9 rfl _ rfl
          subst e9
          exact .inl ⟨rfl, gives_value (v := .bool xn) (w' := W) (by go_simp) ⟨Below.refl _ _, fun u hu => by cases hu; rfl⟩⟩
        | 11, _, rfl =>
          exact .inl ⟨rfl, gives_value (v := .slice (some ⟨b, off, none⟩) n c) (w' := W) (by go_simp) ⟨Below.refl _ _, fun u hu => by cases hu; rfl⟩⟩
        | 12, _, rfl =>
          exact .inl ⟨rfl, gives_value (v := .int .i64 (k : Int)) (w' := W) (by go_simp) ⟨Below.refl _ _, fun u hu => by cases hu; rfl⟩⟩
        | 13, _, rfl =>
          have e11 : v11 = _ := hphi ⟨11, .data⟩ (by simp) rfl v11 rfl _ rfl
          have e12 : v12 = _ := hphi ⟨12, .data⟩ (by simp) rfl v12 rfl _ rfl
          subst e11 e12
          exact .inl ⟨rfl, gives_value (v := .pointer (some ⟨b, off + k * 5, none⟩)) (w' := W) (by go_simp) ⟨Below.refl _ _, fun u hu => by cases hu; rfl⟩⟩
        | 14, _, rfl =>
          have e13 : v13 = _ := hphi ⟨13, .data⟩ (by simp) rfl v13 rfl _ rfl
          subst e13
          exact .inl ⟨rfl, gives_value (v := .pointer (some ⟨b, off + k * 5 + 1, none⟩)) (w' := W) (by go_simp) ⟨Below.refl _ _, fun u hu => by cases hu; rfl⟩⟩
        | 15, _, rfl =>
          have e14 : v14 = _ := hphi ⟨14, .data⟩ (by simp) rfl v14 rfl _ rfl
          subst e14
          exact .inl ⟨rfl, gives_value (v := .bool xo) (w' := W) (by go_simp) ⟨Below.refl _ _, fun u hu => by cases hu; rfl⟩⟩
        | 16, _, rfl =>
          exact .inl ⟨rfl, gives_value (v := .slice (some ⟨b, off, none⟩) n c) (w' := W) (by go_simp) ⟨Below.refl _ _, fun u hu => by cases hu; rfl⟩⟩
        | 17, _, rfl =>
          exact .inl ⟨rfl, gives_value (v := .int .i64 (k : Int)) (w' := W) (by go_simp) ⟨Below.refl _ _, fun u hu => by cases hu; rfl⟩⟩
        | 18, _, rfl =>
          have e16 : v16 = _ := hphi ⟨16, .data⟩ (by simp) rfl v16 rfl _ rfl
          have e17 : v17 = _ := hphi ⟨17, .data⟩ (by simp) rfl v17 rfl _ rfl
          subst e16 e17
          exact .inl ⟨rfl, gives_value (v := .pointer (some ⟨b, off + k * 5, none⟩)) (w' := W) (by go_simp) ⟨Below.refl _ _, fun u hu => by cases hu; rfl⟩⟩
        | 19, _, rfl =>
          have e18 : v18 = _ := hphi ⟨18, .data⟩ (by simp) rfl v18 rfl _ rfl
          subst e18
          exact .inl ⟨rfl, gives_value (v := .pointer (some ⟨b, off + k * 5 + 4, none⟩)) (w' := W) (by go_simp) ⟨Below.refl _ _, fun u hu => by cases hu; rfl⟩⟩
        | 20, _, rfl =>
          have e19 : v19 = _ := hphi ⟨19, .data⟩ (by simp) rfl v19 rfl _ rfl
          subst e19
          exact .inl ⟨rfl, gives_value (v := .string xb) (w' := W) (by go_simp) ⟨Below.refl _ _, fun u hu => by cases hu; rfl⟩⟩
        | 21, _, rfl =>
          exact .inl ⟨rfl, gives_value (v := .slice (some ⟨b, off, none⟩) n c) (w' := W) (by go_simp) ⟨Below.refl _ _, fun u hu => by cases hu; rfl⟩⟩
        | 22, _, rfl =>
          exact .inl ⟨rfl, gives_value (v := .int .i64 (k : Int)) (w' := W) (by go_simp) ⟨Below.refl _ _, fun u hu => by cases hu; rfl⟩⟩
        | 23, _, rfl =>
          have e21 : v21 = _ := hphi ⟨21, .data⟩ (by simp) rfl v21 rfl _ rfl
          have e22 : v22 = _ := hphi ⟨22, .data⟩ (by simp) rfl v22 rfl _ rfl
          subst e21 e22
          exact .inl ⟨rfl, gives_value (v := .pointer (some ⟨b, off + k * 5, none⟩)) (w' := W) (by go_simp) ⟨Below.refl _ _, fun u hu => by cases hu; rfl⟩⟩
        | 24, _, rfl =>
          have e23 : v23 = _ := hphi ⟨23, .data⟩ (by simp) rfl v23 rfl _ rfl
          subst e23
          exact .inl ⟨rfl, gives_value (v := .pointer (some ⟨b, off + k * 5 + 3, none⟩)) (w' := W) (by go_simp) ⟨Below.refl _ _, fun u hu => by cases hu; rfl⟩⟩
        | 25, _, rfl =>
          have e24 : v24 = _ := hphi ⟨24, .data⟩ (by simp) rfl v24 rfl _ rfl
          subst e24
          exact .inl ⟨rfl, gives_value (v := .string xa) (w' := W) (by go_simp) ⟨Below.refl _ _, fun u hu => by cases hu; rfl⟩⟩
        | 26, _, rfl =>
          have e5 : v5 = _ := hphi ⟨5, .data⟩ (by simp) rfl v5 rfl _ rfl
          have e10 : v10 = _ := hphi ⟨10, .data⟩ (by simp) rfl v10 rfl _ rfl
          have e15 : v15 = _ := hphi ⟨15, .data⟩ (by simp) rfl v15 rfl _ rfl
          have e20 : v20 = _ := hphi ⟨20, .data⟩ (by simp) rfl v20 rfl _ rfl
          have e25 : v25 = _ := hphi ⟨25, .data⟩ (by simp) rfl v25 rfl _ rfl
          subst e5 e10 e15 e20 e25
          exact .inl ⟨rfl, gives_value (v := .agg #[.string xp, .bool xn, .bool xo, .string xb, .string xa]) (w' := W) (by go_simp) ⟨Below.refl _ _, fun u hu => by cases hu; rfl⟩⟩
        | 27, _, rfl =>
          have e26 : v26 = _ := hphi ⟨26, .data⟩ (by simp) rfl v26 rfl _ rfl
          subst e26
          exact .inl ⟨rfl, gives_value (v := .slice (some ⟨W.heap.size, 0, none⟩) 1 1) (w' := W.alloc (.cells #[.string xp, .bool xn, .bool xo, .string xb, .string xa] 112)) (by go_simp) ⟨(Below.refl _ W).alloc (Nat.le_refl _) _, W.heap.size, rfl, hR.size, Bk.new W _ _⟩⟩
        | i + 28, hi, _ => exact absurd hi (by omega)
      case tailO =>
        intro vs W hv hR hphi
        obtain ⟨v0, v1, v2, v3, v4, v5, v6, v7, v8, v9, v10, v11, v12, v13, v14, v15, v16, v17, v18, v19, v20, v21, v22, v23, v24, v25, v26, v27, rfl⟩ := ls28 hv
        simp only [List.zip, List.zipWith, putAll, Act.put, List.setIfInBounds_toArray, List.set, List.drop]
        have e0 : v0 = _ := hphi 0 v0 rfl _ rfl
        have e1 : v1 = _ := hphi 1 v1 rfl _ rfl
        have e2 : v2 = _ := hphi 2 v2 rfl _ rfl
        have e3 : v3 = _ := hphi 3 v3 rfl _ rfl
        have e4 : v4 = _ := hphi 4 v4 rfl _ rfl
        have e5 : v5 = _ := hphi 5 v5 rfl _ rfl
        have e6 : v6 = _ := hphi 6 v6 rfl _ rfl
        have e7 : v7 = _ := hphi 7 v7 rfl _ rfl
        have e8 : v8 = _ := hphi 8 v8 rfl _ rfl
        have e9 : v9 = _ := hphi 9 v9 rfl _ rfl
        have e10 : v10 = _ := hphi 10 v10 rfl _ rfl
        have e11 : v11 = _ := hphi 11 v11 rfl _ rfl
        have e12 : v12 = _ := hphi 12 v12 rfl _ rfl
        have e13 : v13 = _ := hphi 13 v13 rfl _ rfl
        have e14 : v14 = _ := hphi 14 v14 rfl _ rfl
        have e15 : v15 = _ := hphi 15 v15 rfl _ rfl
        have e16 : v16 = _ := hphi 16 v16 rfl _ rfl
        have e17 : v17 = _ := hphi 17 v17 rfl _ rfl
        have e18 : v18 = _ := hphi 18 v18 rfl _ rfl
        have e19 : v19 = _ := hphi 19 v19 rfl _ rfl
        have e20 : v20 = _ := hphi 20 v20 rfl _ rfl
        have e21 : v21 = _ := hphi 21 v21 rfl _ rfl
        have e22 : v22 = _ := hphi 22 v22 rfl _ rfl
        have e23 : v23 = _ := hphi 23 v23 rfl _ rfl
        have e24 : v24 = _ := hphi 24 v24 rfl _ rfl
        have e25 : v25 = _ := hphi 25 v25 rfl _ rfl
        have e26 : v26 = _ := hphi 26 v26 rfl _ rfl
        obtain ⟨ab, ea, hab, hak⟩ : ∃ b0, v27 = .slice (some ⟨b0, 0, none⟩) 1 1 ∧ wr.heap.size ≤ b0 ∧ Bk W b0 112 #[.string xp, .bool xn, .bool xo, .string xb, .string xa] := hphi 27 v27 rfl
        subst e0 e1 e2 e3 e4 e5 e6 e7 e8 e9 e10 e11 e12 e13 e14 e15 e16 e17 e18 e19 e20 e21 e22 e23 e24 e25 e26 ea
        clear hphi hv
        have HR := Lib.hid hR
        clear hR y0 y1 y2 y3 y4
        refine wpList_append_apd (base := w.heap.size) (size := 5) _ rfl (.tmp 12) (.tmp 39) 58 rfl 112 i0 _ 56 Tryz.underlying58 Hi.out Hz0.out Hz1.out Hz2.out rfl (by decide) A' k c' _ rfl (HO.out.below HR.out) _ (some ⟨ab, 0, none⟩) 1 1 (flat fcC [oppC ⟨xp, xo, xn, xa, xb⟩]) rfl (Sl.of_bk (n := 1) (size := 5) hak rfl) (fcC_one _) (by unfold maxLen; omega) (by omega) (by have := HR.out.size; omega) ?_
        intro A4 c4 w4 ha4 hb4 hn4 hm4 _
        have HA4 : Hid (Apd w4 w.heap.size 112 5 A4 (k + 1) c4 (flat fcC ((l.take (k + 1)).map oppC))) := by
          show Apd _ _ _ _ _ _ _ _
          rw [HTK.out, List.map_append, flat_append]; exact ha4
        have HB4 : Hid (Below w.heap.size w w4) := (HBE.out.trans (HR.out.mono zr)).trans hb4
        clear ha4 hb4 HO HBE
        go_wp2_with fail
        go_roundw
        case rel => exact ⟨k + 1, A4, c4, hlt, by go_num, rfl, hn4, hm4, HA4.out, HB4.out⟩
        case measure => simp [intOf]; omega
    · have hlz : ¬ (k : Int) < (n : Int) := by omega
      have hkn : k = n := by omega
      subst hkn
      have HE : Hid (l.take k = l) := List.take_of_length_le (by rw [HL.out]; omega)
      have HO := Lib.hid hO.out; have HBE := Lib.hid hBel.out
      clear hO hBel
      go_wp2_with fail
      go_ret
      have h1 := HO.out.sl
      rw [HE.out] at h1
      exact ⟨A', c', by rw [List.length_map, HL.out]; rfl, by rw [List.length_map, HL.out]; exact h1, by rw [List.length_map, HL.out]; exact hmc, hcm, HBE.out⟩
end Go.Proofs.YtmdhlkkekidknaaGreatDoor

namespace Go.Proofs.YtmdhlkkekidknaaGreatDoor
open Go.RowKit

set_option maxRecDepth 100000 in
set_option maxHeartbeats 32000000 in
theorem lawPat_any (A1 A2 : Option Addr) (n1 c1 n2 c2 : Nat) (fa fb : List Fl) (w : World) (h1 : Sl w w.heap.size 2 A1 n1 (flat flC fa)) (h2 : Sl w w.heap.size 2 A2 n2 (flat flC fb)) (m1 : n1 ≤ maxLen) (m2 : n2 ≤ maxLen) (s1 : ∀ f ∈ fa, f.1.size ≤ maxLen ∧ f.2.size ≤ maxLen) (s2 : ∀ f ∈ fb, f.1.size ≤ maxLen ∧ f.2.size ≤ maxLen) :
    Calls Tryz.prog 11 #[.slice A1 n1 c1, .slice A2 n2 c2] w (LawE w) := by
  have H1 := Lib.hid h1; have H2 := Lib.hid h2
  have HG1 := Lib.hid (great9_any A1 n1 c1 w.heap.size fa w h1 m1 s1)
  have HG2 := Lib.hid (great9_any A2 n2 c2 w.heap.size fb w h2 m2 s2)
  unfold Gr9End at HG1 HG2
  have HAW := Lib.hid awake_any
  unfold LawE at HAW ⊢
  have awk : Hid (∀ W, Below w.heap.size w W → Calls Tryz.prog 14 #[] W fun e w' => e = .returned (.bool true) ∧ Below w.heap.size w w') := fun W hW => (HAW.out W).mono fun e w' ⟨h1, h2⟩ => ⟨h1, hW.trans (h2.mono hW.size)⟩
  have HB : Hid (Below w.heap.size w w) := Below.refl _ _
  clear h1 h2 s1 s2 m1 m2
  go_enter Tryz.func11, Tryz.ntmps11
  go_wp2_with fail
  refine HG1.out.mono ?_
  rintro e w1 ⟨r, rfl, hr, rfl⟩
  have HR1 := Lib.hid hr
  clear hr HG1
  cases r with
  | true =>
    clear HR1 HG2
    go_wp2_with fail
    refine (awk.out _ (HB.out)).mono ?_
    rintro e wz ⟨rfl, hb⟩
    have HBZ := Lib.hid hb; clear hb
    go_wp2_with fail
    go_ret
    exact ⟨rfl, HBZ.out⟩
  | false =>
    obtain ⟨hn1, hf1⟩ := HR1.out rfl
    have HF1 := Lib.hid hf1
    clear hf1 HR1
    go_wp2_with fail
    refine HG2.out.mono ?_
    rintro e w1 ⟨r, rfl, hr, rfl⟩
    have HR2 := Lib.hid hr
    clear hr HG2
    cases r with
    | true =>
      clear HR2
      go_wp2_with fail
      refine (awk.out _ (HB.out)).mono ?_
      rintro e wz ⟨rfl, hb⟩
      have HBZ := Lib.hid hb; clear hb
      go_wp2_with fail
      go_ret
      exact ⟨rfl, HBZ.out⟩
    | false =>
      obtain ⟨hn2, hf2⟩ := HR2.out rfl
      have HF2 := Lib.hid hf2
      have HS1 : Hid (∀ f ∈ fa, f.1.size ≤ 1000000 ∧ f.2.size ≤ 60000) := fun f hf => ⟨by have := (HF1.out f hf).1; omega, by have := (HF1.out f hf).2; omega⟩
      have HS2 : Hid (∀ f ∈ fb, f.1.size ≤ 1000000 ∧ f.2.size ≤ 60000) := fun f hf => ⟨by have := (HF2.out f hf).1; omega, by have := (HF2.out f hf).2; omega⟩
      clear hf2 HR2
      have HST := Lib.hid (tstore_any none 0 0 w.heap.size [] A1 n1 c1 fa w ⟨rfl, fun h => absurd h (Nat.lt_irrefl 0)⟩ H1.out (Nat.le_refl _) (Nat.le_refl _) (Nat.zero_le _) (Nat.zero_le _) (by omega) PlOk.nil HS1.out)
      go_wp2_with fail
      refine HST.out.mono ?_
      rintro e w2 hst
      obtain ⟨hst, hb⟩ := str_of (fun f hf => (HS1.out f hf).2) hst
      replace HB : Hid (Below w.heap.size w w2) := HB.out.trans (hb.mono HB.out.size)
      replace H1 := Lib.hid (sl_on H1.out hb)
      replace H2 := Lib.hid (sl_on H2.out hb)
      clear hb
      clear HST
      rcases hst with ⟨z, hz, rfl⟩ | ⟨hok, hasc, q, ⟨d1, d2⟩, A3, c3, hsto, hsr, rfl, hsl, hqc, hcm⟩
      case inl =>
        have t1 : (z != 0) = true := by rw [bne_iff_ne]; exact hz
        clear hz
        simp only [digV, zD]
        obtain ⟨W3, hW3⟩ : ∃ W, w2.alloc (.cells #[.int .u64 0, .int .u64 0] 30) = W := ⟨_, rfl⟩
        have hb : Below w2.heap.size w2 W3 := by rw [← hW3]; exact (Below.refl _ w2).alloc (Nat.le_refl _) _
        replace HB : Hid (Below w.heap.size w W3) := HB.out.trans (hb.mono HB.out.size)
        replace H1 := Lib.hid (sl_on H1.out hb)
        replace H2 := Lib.hid (sl_on H2.out hb)
        clear hb
        have HW3 := Lib.hid hW3
        clear hW3
        have HST := Lib.hid (tstore_any none 0 0 W3.heap.size [] A2 n2 c2 fb W3 ⟨rfl, fun h => absurd h (Nat.lt_irrefl 0)⟩ H2.out (Nat.le_refl _) (Nat.le_refl _) (Nat.zero_le _) (Nat.zero_le _) (by omega) PlOk.nil HS2.out)
        go_wp2_with fail
        rw [HW3.out]
        refine HST.out.mono ?_
        rintro e w4 hst
        obtain ⟨hst, hb⟩ := str_of (fun f hf => (HS2.out f hf).2) hst
        replace HB : Hid (Below w.heap.size w w4) := HB.out.trans (hb.mono HB.out.size)
        clear hb
        clear HST HW3
        rcases hst with ⟨z2, hz2, rfl⟩ | ⟨_, _, q2, ⟨e1, e2⟩, A4, c4, _, _, rfl, _, _, _⟩
        all_goals
          simp only [digV, zD]
          go_wp2_with fail
          refine (awk.out _ (HB.out.alloc HB.out.size _)).mono ?_
          rintro e wz ⟨rfl, hb⟩
          have HBZ := Lib.hid hb; clear hb
          go_wp2_with fail
          go_ret
          exact ⟨rfl, HBZ.out⟩
      case inr =>
        have HOK := Lib.hid hok; have HASC := Lib.hid hasc
        obtain ⟨hstd, hpl, _⟩ := sto_std 101 [] fa q (d1, d2) hok PlOk.nil hsto
        have HSTD := Lib.hid hstd; have HPL := Lib.hid hpl
        have HSM : Hid (SmP q) := sto_small 101 [] fa q (d1, d2) hok PlOk.nil (fun i hi => by cases hi) (fun f hf => by have := (HF1.out f hf).2; omega) hsto
        have hq7 : q.length ≤ 30000 := by
          have h1 := hsr.len
          have h2 := wt_ok hok
          simp only [List.length_nil] at h1
          omega
        have HQ := Lib.hid hsl
        have HQC := Lib.hid hqc; have HCM := Lib.hid hcm
        clear hok hasc hsto hsr hsl hstd hpl hqc hcm
        simp only [digV]
        obtain ⟨W3, hW3⟩ : ∃ W, w2.alloc (.cells #[.int .u64 d1, .int .u64 d2] 30) = W := ⟨_, rfl⟩
        have hb : Below w2.heap.size w2 W3 := by rw [← hW3]; exact (Below.refl _ w2).alloc (Nat.le_refl _) _
        have HK : Hid (Bk W3 w2.heap.size 30 #[.int .u64 d1, .int .u64 d2]) := by rw [← hW3]; exact Bk.new w2 _ _
        replace HB : Hid (Below w.heap.size w W3) := HB.out.trans (hb.mono HB.out.size)
        replace H1 := Lib.hid (sl_on H1.out hb)
        replace H2 := Lib.hid (sl_on H2.out hb)
        replace HQ := Lib.hid (sl_on HQ.out hb)
        clear hb
        have HW3 := Lib.hid hW3
        clear hW3
        have HST := Lib.hid (tstore_any A3 q.length c3 W3.heap.size q A2 n2 c2 fb W3 HQ.out H2.out (Nat.le_refl _) HQC.out HCM.out (by omega) (by omega) HPL.out HS2.out)
        go_wp2_with fail
        rw [HW3.out]
        refine HST.out.mono ?_
        rintro e w4 hst
        obtain ⟨hst, hb⟩ := str_of (fun f hf => (HS2.out f hf).2) hst
        replace HB : Hid (Below w.heap.size w w4) := HB.out.trans (hb.mono HB.out.size)
        replace H1 := Lib.hid (sl_on H1.out hb)
        replace H2 := Lib.hid (sl_on H2.out hb)
        replace HQ := Lib.hid (sl_on HQ.out hb)
        replace HK := Lib.hid (HK.out.below hb HK.out.lt)
        clear hb
        clear HST HW3
        rcases hst with ⟨z, hz, rfl⟩ | ⟨hok2, hasc2, q2, ⟨e1, e2⟩, A4, c4, hsto, hsr, rfl, hsl, _, _⟩
        case inl =>
          have t1 : (z != 0) = true := by rw [bne_iff_ne]; exact hz
          clear hz
          simp only [digV, zD]
          go_wp2_with fail
          refine (awk.out _ (HB.out.alloc HB.out.size _)).mono ?_
          rintro e wz ⟨rfl, hb⟩
          have HBZ := Lib.hid hb; clear hb
          go_wp2_with fail
          go_ret
          exact ⟨rfl, HBZ.out⟩
        case inr =>
          have HOK2 := Lib.hid hok2; have HASC2 := Lib.hid hasc2
          obtain ⟨hstd, hpl, hsub⟩ := sto_std 101 q fb q2 (e1, e2) hok2 HPL.out hsto
          have HSTD2 := Lib.hid hstd; have HPL2 := Lib.hid hpl
          have HSM2 : Hid (SmP q2) := sto_small 101 q fb q2 (e1, e2) hok2 HPL.out HSM.out (fun f hf => by have := (HF2.out f hf).2; omega) hsto
          have HLA : Hid (LdSeq q2 (d1, d2) fa) := std_load hpl HOK.out (HSTD.out.mono HPL.out hpl hsub) HASC.out
          have HLB : Hid (LdSeq q2 (e1, e2) fb) := std_load hpl hok2 hstd hasc2
          have hq27 : q2.length ≤ 60000 := by
            have h1 := hsr.len
            have h2 := wt_ok hok2
            omega
          have HQ2 := Lib.hid hsl
          clear hok2 hasc2 hsto hsr hsl hstd hpl hsub HQ HSM HQC HCM HSTD HSTD2 HPL
          simp only [digV]
          obtain ⟨W5, hW5⟩ : ∃ W, w4.alloc (.cells #[.int .u64 e1, .int .u64 e2] 30) = W := ⟨_, rfl⟩
          have hb : Below w4.heap.size w4 W5 := by rw [← hW5]; exact (Below.refl _ w4).alloc (Nat.le_refl _) _
          have HX : Hid (Bk W5 w4.heap.size 30 #[.int .u64 e1, .int .u64 e2]) := by rw [← hW5]; exact Bk.new w4 _ _
          replace HB : Hid (Below w.heap.size w W5) := HB.out.trans (hb.mono HB.out.size)
          replace H1 := Lib.hid (sl_on H1.out hb)
          replace H2 := Lib.hid (sl_on H2.out hb)
          replace HQ2 := Lib.hid (sl_on HQ2.out hb)
          replace HK := Lib.hid (HK.out.below hb HK.out.lt)
          clear hb
          have HW5 := Lib.hid hW5
          clear hW5
          have HC := Lib.hid (tdiff_any A4 q2.length c4 W5.heap.size q2 (d1, d2) (e1, e2) W5 HQ2.out (Nat.le_refl _) (by omega) HPL2.out HSM2.out)
          simp only [digV] at HC
          obtain ⟨x0, x1, _, _⟩ := HK.out.two
          obtain ⟨y0, y1, _, _⟩ := HX.out.two
          rw [← HW5.out] at x0 x1 y0 y1
          go_wp2_with fail
          rw [HW5.out]
          refine HC.out.mono ?_
          rintro e w6 hst
          obtain ⟨⟨ch, A5, c5, hdif, rfl, hsl, _, _, hc4⟩, hb⟩ := dif_of HLA.out HLB.out hst
          have HDIF := Lib.hid hdif
          have HCH := Lib.hid hsl
          replace HB : Hid (Below w.heap.size w w6) := HB.out.trans (hb.mono HB.out.size)
          replace H1 := Lib.hid (sl_on H1.out hb)
          replace H2 := Lib.hid (sl_on H2.out hb)
          replace HQ2 := Lib.hid (sl_on HQ2.out hb)
          replace HK := Lib.hid (HK.out.below hb HK.out.lt)
          clear hb
          clear HC HW5 x0 x1 y0 y1 hdif hsl HX HLB
          have HEQ : Hid ((((ch.length : Int)) == 0) = decide (fa = fb)) := by
            show _ = _
            have h := difR_nil HASC.out HASC2.out HDIF.out
            by_cases he : fa = fb
            · rw [decide_eq_true he, h.2 he]; rfl
            · rw [decide_eq_false he, beq_eq_false_iff_ne]
              intro h0
              exact he (h.1 (List.eq_nil_of_length_eq_zero (by omega)))
          have HC := Lib.hid (tpatch_any A1 A5 n1 c1 ch.length c5 w6.heap.size fa ch w6 H1.out HCH.out (Nat.le_refl _) (by omega) hc4 HS1.out (difR_sz HOK.out HOK2.out HDIF.out))
          go_wp2_with fail
          refine HC.out.mono ?_
          rintro e w7 hst
          obtain ⟨⟨A6, c6, rfl, hsl, _, _⟩, hb⟩ := pat_of HOK.out HASC.out HOK2.out HASC2.out HDIF.out hst
          have HL := Lib.hid hsl
          replace HB : Hid (Below w.heap.size w w7) := HB.out.trans (hb.mono HB.out.size)
          replace H1 := Lib.hid (sl_on H1.out hb)
          replace H2 := Lib.hid (sl_on H2.out hb)
          replace HQ2 := Lib.hid (sl_on HQ2.out hb)
          replace HK := Lib.hid (HK.out.below hb HK.out.lt)
          replace HCH := Lib.hid (sl_on HCH.out hb)
          clear hb
          clear HC hsl
          have HC := Lib.hid (opp9_any A5 ch.length c5 w7.heap.size ch w7 HCH.out (Nat.le_refl _) (by omega))
          unfold FcsE at HC
          obtain ⟨co, hco⟩ : ∃ co, ch.map oppC = co := ⟨_, rfl⟩
          rw [hco] at HC
          have HDO : Hid (DifR fb fa co) := by rw [← hco]; exact difR_opp HDIF.out
          have hcl : co.length ≤ 400 := by rw [← hco, List.length_map]; exact hc4
          clear hco
          go_wp2_with fail
          refine HC.out.mono ?_
          rintro e w8 ⟨A7, c7, rfl, hsl, _, _, hb⟩
          have HOP := Lib.hid hsl
          replace HB : Hid (Below w.heap.size w w8) := HB.out.trans (hb.mono HB.out.size)
          replace H1 := Lib.hid (sl_on H1.out hb)
          replace H2 := Lib.hid (sl_on H2.out hb)
          replace HQ2 := Lib.hid (sl_on HQ2.out hb)
          replace HK := Lib.hid (HK.out.below hb HK.out.lt)
          replace HL := Lib.hid (sl_on HL.out hb)
          clear hb
          clear HC hsl HCH
          have HC := Lib.hid (tpatch_any A2 A7 n2 c2 co.length c7 w8.heap.size fb co w8 H2.out HOP.out (Nat.le_refl _) (by omega) hcl HS2.out (difR_sz HOK2.out HOK.out HDO.out))
          go_wp2_with fail
          refine HC.out.mono ?_
          rintro e w9 hst
          obtain ⟨⟨A8, c8, rfl, hsl, _, _⟩, hb⟩ := pat_of HOK2.out HASC2.out HOK.out HASC.out HDO.out hst
          have HM := Lib.hid hsl
          replace HB : Hid (Below w.heap.size w w9) := HB.out.trans (hb.mono HB.out.size)
          replace H1 := Lib.hid (sl_on H1.out hb)
          replace H2 := Lib.hid (sl_on H2.out hb)
          replace HQ2 := Lib.hid (sl_on HQ2.out hb)
          replace HK := Lib.hid (HK.out.below hb HK.out.lt)
          replace HL := Lib.hid (sl_on HL.out hb)
          clear hb
          clear HC hsl HOP HDO
          have HC := Lib.hid (tdiff_any A4 q2.length c4 w9.heap.size q2 (d1, d2) (d1, d2) w9 HQ2.out (Nat.le_refl _) (by omega) HPL2.out HSM2.out)
          simp only [digV] at HC
          obtain ⟨x0, x1, _, _⟩ := HK.out.two
          go_wp2_with fail
          refine HC.out.mono ?_
          rintro e w10 hst
          obtain ⟨⟨cn, A9, c9, hdn, rfl, _, _, _, _⟩, hb⟩ := dif_of HLA.out HLA.out hst
          obtain rfl : cn = [] := (difR_nil HASC.out HASC.out hdn).2 rfl
          replace HB : Hid (Below w.heap.size w w10) := HB.out.trans (hb.mono HB.out.size)
          replace H1 := Lib.hid (sl_on H1.out hb)
          replace H2 := Lib.hid (sl_on H2.out hb)
          replace HL := Lib.hid (sl_on HL.out hb)
          replace HM := Lib.hid (sl_on HM.out hb)
          clear hb
          clear HC hdn x0 x1 HK HQ2
          simp only [List.length_nil]
          have hEQ := HEQ.out
          obtain ⟨r, hr⟩ : ∃ r, decide (fa = fb) = r := ⟨_, rfl⟩
          rw [hr] at hEQ
          have HC := Lib.hid (same9B_any A6 A2 fb.length c6 n2 c2 w10.heap.size fb fb w10 HL.out H2.out (by have := HOK2.out.few; unfold maxLen; omega))
          rw [decide_eq_true rfl] at HC
          have hrr : (r == r) = true := by simp
          have HEQ' := Lib.hid hEQ
          have HR := Lib.hid hr
          clear hEQ hr HEQ
          go_wp2_with fail
          refine HC.out.mono ?_
          rintro e w11 ⟨rfl, hb⟩
          replace HB : Hid (Below w.heap.size w w11) := HB.out.trans (hb.mono HB.out.size)
          replace H1 := Lib.hid (sl_on H1.out hb)
          replace H2 := Lib.hid (sl_on H2.out hb)
          replace HM := Lib.hid (sl_on HM.out hb)
          clear hb
          clear HC HL
          have HC := Lib.hid (same9B_any A8 A1 fa.length c8 n1 c1 w11.heap.size fa fa w11 HM.out H1.out (by have := HOK.out.few; unfold maxLen; omega))
          rw [decide_eq_true rfl] at HC
          go_wp2_with fail
          refine HC.out.mono ?_
          rintro e w12 ⟨rfl, hb⟩
          replace HB : Hid (Below w.heap.size w w12) := HB.out.trans (hb.mono HB.out.size)
          replace H1 := Lib.hid (sl_on H1.out hb)
          replace H2 := Lib.hid (sl_on H2.out hb)
          clear hb
          clear HC HM
          have HC := Lib.hid (same9B_any A1 A2 n1 c1 n2 c2 w12.heap.size fa fb w12 H1.out H2.out (by unfold maxLen; omega))
          rw [HR.out] at HC
          have hEQ := HEQ'.out
          go_wp2_with fail
          refine HC.out.mono ?_
          rintro e w13 ⟨rfl, hb⟩
          replace HB : Hid (Below w.heap.size w w13) := HB.out.trans (hb.mono HB.out.size)
          clear hb
          clear HC
          go_wp2_with fail
          refine (awk.out _ (HB.out)).mono ?_
          rintro e wz ⟨rfl, hb⟩
          have HBZ := Lib.hid hb; clear hb
          go_wp2_with fail
          go_ret
          exact ⟨rfl, HBZ.out⟩
end Go.Proofs.YtmdhlkkekidknaaGreatDoor
