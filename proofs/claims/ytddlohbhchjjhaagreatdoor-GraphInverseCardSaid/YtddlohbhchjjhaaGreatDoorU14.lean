/-
  Lemmas: GraphReads.
-/
import Derived.Test.YtddlohbhchjjhaaGreatDoorU13

namespace Go.Proofs.YtddlohbhchjjhaaGreatDoor
open Go.RowKit Go.Maps

theorem FndR.same {ts : List Tg} {lab : ByteArray} {l m : List ByteArray} {e f : Int} (h : FndR ts lab l e) (g : FndR ts lab m f) : l = m ∧ e = f := by
  rcases h with ⟨h1, h2, h3⟩ | ⟨h1, h2, h3, h4⟩ | ⟨h1, h2, h3, h4, h5⟩
  · rcases g with ⟨_, g2, g3⟩ | ⟨g1, _⟩ | ⟨g1, _⟩
    · exact ⟨h2.trans g2.symm, h3.trans g3.symm⟩
    · exact absurd g1 h1
    · exact absurd g1 h1
  · rcases g with ⟨g1, _⟩ | ⟨_, _, g3, g4⟩ | ⟨_, g2, _⟩
    · exact absurd h1 g1
    · exact ⟨h3.trans g3.symm, h4.trans g4.symm⟩
    · rw [h2] at g2; cases g2
  · rcases g with ⟨g1, _⟩ | ⟨_, g2, _⟩ | ⟨_, _, g3, g4, g5⟩
    · exact absurd h1 g1
    · rw [h2] at g2; cases g2
    · exact ⟨asc_ext h4 g4 fun x => (h5 x).trans (g5 x).symm, h3.trans g3.symm⟩
/-- a slice that reads as what Affected answers -/
def AfV (ts : List Tg) (ps : List ByteArray) (v : Value) (W : World) : Prop := ∃ A m c l, v = .slice A m c ∧ Sl W W.heap.size 1 A m (strs l) ∧ m ≤ maxLen ∧ AffR ts ps l
theorem AfV.on {ts : List Tg} {ps : List ByteArray} {v : Value} {W W' : World} (h : AfV ts ps v W) (hb : Below W.heap.size W W') : AfV ts ps v W' := by
  obtain ⟨A, m, c, l, h1, h2, h3, h4⟩ := h
  exact ⟨A, m, c, l, h1, h2.on hb, h3, h4⟩

set_option maxRecDepth 100000 in
set_option maxHeartbeats 16000000 in
theorem lawReads_any (A : Option Addr) (n c : Nat) (ts : List Tg) (lab : ByteArray) (pA : Option Addr) (pn pc : Nat) (ps : List ByteArray) (w : World) (h0 : Sl w w.heap.size 4 A n (flat tgC ts)) (hok : ∀ t ∈ ts, TgOk w w.heap.size t) (hnc : n ≤ c) (hcm : c ≤ maxLen) (hls : lab.size ≤ maxLen)
    (hp : Sl w w.heap.size 1 pA pn (strs ps)) (hpn : pn ≤ maxLen) (hps : ∀ s ∈ ps, s.size ≤ maxLen) :
    Calls Tryz.prog 8 #[.agg #[.slice A n c], .string lab, .slice pA pn pc] w (LawEnd w) := by
  have H0 := Lib.hid h0; have HOK := Lib.hid hok; have HLS := Lib.hid hls; have HP := Lib.hid hp; have HPS := Lib.hid hps
  have HPL : Hid (ps.length = pn) := by have := hp.1; rw [strs_len] at this; show _ = _; omega
  clear h0 hok hp hps
  have hlm : lab.size ≤ 9223372036854775807 := by unfold maxLen at hls; exact hls
  clear hls
  obtain ⟨w0, hW0⟩ : ∃ W0, w.alloc (.cells #[.slice A n c] 27) = W0 := ⟨_, rfl⟩
  have HB0 : Hid (Below w.heap.size w w0) := by rw [← hW0]; exact (Below.refl _ w).alloc (Nat.le_refl _) _
  have zW0 : w0.heap.size = w.heap.size + 1 := by rw [← hW0]; simp
  have HG0 : Hid (Bk w0 w.heap.size 27 #[.slice A n c]) := by rw [← hW0]; exact Bk.new w _ _
  have u0 := HG0.out.cell 0
  simp at u0
  have HGR := Lib.hid (rgreatS_any A n c w.heap.size ts w0 (H0.out.below HB0.out (Nat.le_refl _)) (fun t ht => (HOK.out t ht).below HB0.out (Nat.le_refl _)) hnc hcm)
  have HMN := Lib.hid (many_any pA pn pc w.heap.size ps w0 (HP.out.below HB0.out (Nat.le_refl _)) hpn HPS.out)
  have HMF : Hid (manyB ps = false → (∀ s ∈ ps, s.size ≤ 100) ∧ ps.length ≤ 20) := manyB_false
  generalize manyB ps = mb at HMN HMF
  go_enter Tryz.func8, Tryz.ntmps8
  go_wp2_with fail
  refine HGR.out.mono ?_
  rintro e w1 ⟨r, rfl, _, rfl⟩
  cases r with
  | true =>
    go_wp2_with fail
    refine (awake_any _).mono ?_
    rintro e wz ⟨rfl, hbz⟩
    have HBz := Lib.hid (HB0.out.trans (hbz.mono HB0.out.size)); clear hbz
    go_wp2_with fail
    go_ret
    exact ⟨rfl, HBz.out⟩

  | false =>
    by_cases hl : (100 : Int) < (lab.size : Int)
    · go_wp2_with fail
      refine (awake_any _).mono ?_
      rintro e wz ⟨rfl, hbz⟩
      have HBz := Lib.hid (HB0.out.trans (hbz.mono HB0.out.size)); clear hbz
      go_wp2_with fail
      go_ret
      exact ⟨rfl, HBz.out⟩

    go_wp2_with fail
    refine HMN.out.mono ?_
    rintro e w1 ⟨rfl, rfl⟩
    cases mb with
    | true =>
      go_wp2_with fail
      refine (awake_any _).mono ?_
      rintro e wz ⟨rfl, hbz⟩
      have HBz := Lib.hid (HB0.out.trans (hbz.mono HB0.out.size)); clear hbz
      go_wp2_with fail
      go_ret
      exact ⟨rfl, HBz.out⟩

    | false =>
      have hpm : pn ≤ 1000000 := by have := (HMF.out rfl).2; have := HPL.out; omega
      clear HMN HMF HGR hW0 hpn
      obtain ⟨w0, hww⟩ : ∃ W, W = w1 := ⟨_, rfl⟩
      subst hww
      have HC1 := Lib.hid (order_any A n c w.heap.size ts w0 (H0.out.below HB0.out (Nat.le_refl _)) (fun t ht => (HOK.out t ht).below HB0.out (Nat.le_refl _)) HB0.out.size hnc hcm)
      go_wp2_with fail
      refine HC1.out.mono ?_
      rintro e w1 ⟨A1, m1, c1, l1, e1, rfl, hs, hm, hc, hr, hb⟩
      have HB1 : Hid (Below w.heap.size w w1) := HB0.out.trans (hb.mono HB0.out.size)
      have HG1 := Lib.hid (HG0.out.below hb HG0.out.lt)
      have S1_1 := Lib.hid hs; have M1 := Lib.hid (Nat.le_trans hm hc)
      have HR1 := Lib.hid hr
      clear hs hm hc hr hb u0 HC1 HG0 HB0 zW0
      have u0 := HG1.out.cell 0; simp at u0
      have HC2 := Lib.hid (rorder_any A n c w.heap.size ts w1 (H0.out.below HB1.out (Nat.le_refl _)) (fun t ht => (HOK.out t ht).below HB1.out (Nat.le_refl _)) HB1.out.size hnc hcm)
      go_wp2_with fail
      refine HC2.out.mono ?_
      rintro e w2 ⟨A2, m2, c2, l2, e2, rfl, hs, hm, hc, hr, hb⟩
      have HB2 : Hid (Below w.heap.size w w2) := HB1.out.trans (hb.mono HB1.out.size)
      have HG2 := Lib.hid (HG1.out.below hb HG1.out.lt)
      have S1_2 := Lib.hid (S1_1.out.on hb)
      have S2_2 := Lib.hid hs; have M2 := Lib.hid (Nat.le_trans hm hc)
      obtain ⟨rfl, rfl⟩ := HR1.out.same hr
      clear hs hm hc hr hb u0 HC2 HG1 HB1 S1_1
      clear HR1
      have u0 := HG2.out.cell 0; simp at u0
      have HC3 := Lib.hid (deps_any A n c w.heap.size ts lab w2 (H0.out.below HB2.out (Nat.le_refl _)) (fun t ht => (HOK.out t ht).below HB2.out (Nat.le_refl _)) HB2.out.size hnc hcm HLS.out)
      go_wp2_with fail
      refine HC3.out.mono ?_
      rintro e w3 ⟨A3, m3, c3, l3, e3, rfl, hs, hm, hc, hb, hr⟩
      have HB3 : Hid (Below w.heap.size w w3) := HB2.out.trans (hb.mono HB2.out.size)
      have HG3 := Lib.hid (HG2.out.below hb HG2.out.lt)
      have S1_3 := Lib.hid (S1_2.out.on hb)
      have S2_3 := Lib.hid (S2_2.out.on hb)
      have S3_3 := Lib.hid hs; have M3 := Lib.hid (Nat.le_trans hm hc)
      have HR3 := Lib.hid hr
      clear hs hm hc hr hb u0 HC3 HG2 HB2 S1_2 S2_2
      have u0 := HG3.out.cell 0; simp at u0
      have HC4 := Lib.hid (rdeps_any A n c w.heap.size ts lab w3 (H0.out.below HB3.out (Nat.le_refl _)) (fun t ht => (HOK.out t ht).below HB3.out (Nat.le_refl _)) HB3.out.size hnc hcm)
      go_wp2_with fail
      refine HC4.out.mono ?_
      rintro e w4 ⟨A4, m4, c4, l4, e4, rfl, hs, hm, hc, hb, hr⟩
      have HB4 : Hid (Below w.heap.size w w4) := HB3.out.trans (hb.mono HB3.out.size)
      have HG4 := Lib.hid (HG3.out.below hb HG3.out.lt)
      have S1_4 := Lib.hid (S1_3.out.on hb)
      have S2_4 := Lib.hid (S2_3.out.on hb)
      have S3_4 := Lib.hid (S3_3.out.on hb)
      have S4_4 := Lib.hid hs; have M4 := Lib.hid (Nat.le_trans hm hc)
      obtain ⟨rfl, rfl⟩ := HR3.out.same hr
      clear hs hm hc hr hb u0 HC4 HG3 HB3 S1_3 S2_3 S3_3
      clear HR3
      have u0 := HG4.out.cell 0; simp at u0
      have HC5 := Lib.hid (users_any A n c w.heap.size ts lab w4 (H0.out.below HB4.out (Nat.le_refl _)) (fun t ht => (HOK.out t ht).below HB4.out (Nat.le_refl _)) HB4.out.size hnc hcm HLS.out)
      go_wp2_with fail
      refine HC5.out.mono ?_
      rintro e w5 ⟨A5, m5, c5, l5, e5, rfl, hs, hm, hc, hb, hr⟩
      have HB5 : Hid (Below w.heap.size w w5) := HB4.out.trans (hb.mono HB4.out.size)
      have HG5 := Lib.hid (HG4.out.below hb HG4.out.lt)
      have S1_5 := Lib.hid (S1_4.out.on hb)
      have S2_5 := Lib.hid (S2_4.out.on hb)
      have S3_5 := Lib.hid (S3_4.out.on hb)
      have S4_5 := Lib.hid (S4_4.out.on hb)
      have S5_5 := Lib.hid hs; have M5 := Lib.hid (Nat.le_trans hm hc)
      have HR5 := Lib.hid hr
      clear hs hm hc hr hb u0 HC5 HG4 HB4 S1_4 S2_4 S3_4 S4_4
      have u0 := HG5.out.cell 0; simp at u0
      have HC6 := Lib.hid (rusers_any A n c w.heap.size ts lab w5 (H0.out.below HB5.out (Nat.le_refl _)) (fun t ht => (HOK.out t ht).below HB5.out (Nat.le_refl _)) HB5.out.size hnc hcm)
      go_wp2_with fail
      refine HC6.out.mono ?_
      rintro e w6 ⟨A6, m6, c6, l6, e6, rfl, hs, hm, hc, hb, hr⟩
      have HB6 : Hid (Below w.heap.size w w6) := HB5.out.trans (hb.mono HB5.out.size)
      have HG6 := Lib.hid (HG5.out.below hb HG5.out.lt)
      have S1_6 := Lib.hid (S1_5.out.on hb)
      have S2_6 := Lib.hid (S2_5.out.on hb)
      have S3_6 := Lib.hid (S3_5.out.on hb)
      have S4_6 := Lib.hid (S4_5.out.on hb)
      have S5_6 := Lib.hid (S5_5.out.on hb)
      have S6_6 := Lib.hid hs; have M6 := Lib.hid (Nat.le_trans hm hc)
      obtain ⟨rfl, rfl⟩ := HR5.out.same hr
      clear hs hm hc hr hb u0 HC6 HG5 HB5 S1_5 S2_5 S3_5 S4_5 S5_5
      clear HR5
      have u0 := HG6.out.cell 0; simp at u0
      have HGl : Hid (w.heap.size < w6.heap.size) := HG6.out.lt
      have hgl := HGl.out
      have HSP : Hid (∀ x ∈ [(31, AfV ts ps), (34, AfV ts ps)], ∀ v W W', x.2 v W → Below W.heap.size W W' → x.2 v W') := by
        intro x hx v W W' h hb
        simp only [List.mem_cons, List.mem_nil_iff, or_false] at hx
        rcases hx with rfl | rfl
        · exact AfV.on h hb
        · exact AfV.on h hb
      go_wp2_with fail
      refine wp_region_stableGD 40 (66 :: 67 :: 68 :: 69 :: 70 :: 71 :: 72 :: 73 :: 74 :: 75 :: 76 :: 77 :: 78 :: 79 :: 80 :: 81 :: 82 :: 83 :: 84 :: 85 :: 86 :: 87 :: 88 :: 89 :: 90 :: 91 :: 92 :: 93 :: 94 :: 95 :: 96 :: 97 :: 98 :: 99 :: 100 :: 101 :: 102 :: 103 :: 104 :: 105 :: []) (by kernel_rfl) (by kernel_rfl) (by kernel_rfl) (fun W => Below w6.heap.size w6 W) (fun W W' => Below W.heap.size W W')
        (gPhi [(31, AfV ts ps), (34, AfV ts ps)] ((.slice A1 m1 c1) :: (.slice A2 m2 c2) :: (.bool true) :: (.bool true) :: (.int .i64 e1) :: (.int .i64 e1) :: (.bool true) :: (.bool true) :: (.bool true) :: (.slice A3 m3 c3) :: (.slice A4 m4 c4) :: (.bool true) :: (.bool true) :: (.bool true) :: (.int .i64 e3) :: (.int .i64 e3) :: (.bool true) :: (.bool true) :: (.bool true) :: (.slice A5 m5 c5) :: (.slice A6 m6 c6) :: (.bool true) :: (.bool true) :: (.bool true) :: (.int .i64 e5) :: (.int .i64 e5) :: (.bool true) :: (.bool true) :: (.bool true) :: (.agg #[.slice A n c]) :: (.slice pA pn pc) :: (undef) :: (.agg #[.slice A n c]) :: (.slice pA pn pc) :: (undef) :: (.bool true) :: (.bool true) :: (.bool true) :: (.bool true) :: (.bool true) :: [])) (fun W W' h1 h2 => h1.trans (h2.mono h1.size)) (fun i v W W' h hb => gPhi_keep HSP.out i v W W' h hb) (Below.refl _ _).drew ?stepA ?tailA
      case stepA =>
        intro i o vs W hi ho hv hR hphi
        obtain ⟨v0, v1, v2, v3, v4, v5, v6, v7, v8, v9, v10, v11, v12, v13, v14, v15, v16, v17, v18, v19, v20, v21, v22, v23, v24, v25, v26, v27, v28, v29, v30, v31, v32, v33, v34, v35, v36, v37, v38, v39, rfl⟩ := ls40 hv
        simp only [List.zip, List.zipWith, putAll, Act.put, List.setIfInBounds_toArray, List.set]
        have hWz := hR.size
        have g0 := (hR.cell (p := ⟨w.heap.size, 0, none⟩) (by show w.heap.size < _; omega)).trans u0
        match i, hi, ho with
        | 0, _, rfl =>
          exact .inl ⟨rfl, gives_value (v := .slice A1 m1 c1) (w' := W) (by go_simp) ⟨Below.refl _ _, fun u hu => by cases hu; rfl⟩⟩
        | 1, _, rfl =>
          exact .inl ⟨rfl, gives_value (v := .slice A2 m2 c2) (w' := W) (by go_simp) ⟨Below.refl _ _, fun u hu => by cases hu; rfl⟩⟩
        | 2, _, rfl =>
          have e0 : v0 = _ := hphi ⟨0, .data⟩ (by simp) rfl v0 rfl _ rfl
          have e1 : v1 = _ := hphi ⟨1, .data⟩ (by simp) rfl v1 rfl _ rfl
          subst e0 e1
          refine .inl ⟨rfl, gives_call (f := 19) (args := #[.slice A1 m1 c1, .slice A2 m2 c2]) (by go_simp) ((sameS_any A1 A2 m1 c1 m2 c2 W.heap.size l1 l1 W (S1_6.out.on hR) (S2_6.out.on hR) M1.out).mono ?_)⟩
          rintro e W' ⟨rfl, q, rfl⟩
          exact ⟨_, rfl, below_drewN (Below.refl _ _) q, fun u hu => by cases hu; exact congrArg Value.bool (decide_eq_true rfl)⟩
        | 3, _, rfl =>
          have e2 : v2 = _ := hphi ⟨2, .data⟩ (by simp) rfl v2 rfl _ rfl
          subst e2
          exact .inl ⟨rfl, gives_value (v := .bool true) (w' := W) (by go_simp) ⟨Below.refl _ _, fun u hu => by cases hu; rfl⟩⟩
        | 4, _, rfl =>
          have e3 : v3 = _ := hphi ⟨3, .guard⟩ (by simp) rfl v3 rfl _ rfl
          subst e3
          exact .inl ⟨rfl, gives_value (v := .int .i64 e1) (w' := W) (by go_simp) ⟨Below.refl _ _, fun u hu => by cases hu; rfl⟩⟩
        | 5, _, rfl =>
          have e3 : v3 = _ := hphi ⟨3, .guard⟩ (by simp) rfl v3 rfl _ rfl
          subst e3
          exact .inl ⟨rfl, gives_value (v := .int .i64 e1) (w' := W) (by go_simp) ⟨Below.refl _ _, fun u hu => by cases hu; rfl⟩⟩
        | 6, _, rfl =>
          have e4 : v4 = _ := hphi ⟨4, .data⟩ (by simp) rfl v4 rfl _ rfl
          have e5 : v5 = _ := hphi ⟨5, .data⟩ (by simp) rfl v5 rfl _ rfl
          have e3 : v3 = _ := hphi ⟨3, .guard⟩ (by simp) rfl v3 rfl _ rfl
          subst e3 e4 e5
          exact .inl ⟨rfl, gives_value (v := .bool true) (w' := W) (by go_simp) ⟨Below.refl _ _, fun u hu => by cases hu; rfl⟩⟩
        | 7, _, rfl =>
          have e3 : v3 = _ := hphi ⟨3, .data⟩ (by simp) rfl v3 rfl _ rfl
          have e6 : v6 = _ := hphi ⟨6, .data⟩ (by simp) rfl v6 rfl _ rfl
          subst e3 e6
          exact .inl ⟨rfl, gives_value (v := .bool true) (w' := W) (by go_simp) ⟨Below.refl _ _, fun u hu => by cases hu; rfl⟩⟩
        | 8, _, rfl =>
          have e7 : v7 = _ := hphi ⟨7, .data⟩ (by simp) rfl v7 rfl _ rfl
          subst e7
          exact .inl ⟨rfl, gives_value (v := .bool true) (w' := W) (by go_simp) ⟨Below.refl _ _, fun u hu => by cases hu; rfl⟩⟩
        | 9, _, rfl =>
          have e8 : v8 = _ := hphi ⟨8, .guard⟩ (by simp) rfl v8 rfl _ rfl
          subst e8
          exact .inl ⟨rfl, gives_value (v := .slice A3 m3 c3) (w' := W) (by go_simp) ⟨Below.refl _ _, fun u hu => by cases hu; rfl⟩⟩
        | 10, _, rfl =>
          have e8 : v8 = _ := hphi ⟨8, .guard⟩ (by simp) rfl v8 rfl _ rfl
          subst e8
          exact .inl ⟨rfl, gives_value (v := .slice A4 m4 c4) (w' := W) (by go_simp) ⟨Below.refl _ _, fun u hu => by cases hu; rfl⟩⟩
        | 11, _, rfl =>
          have e9 : v9 = _ := hphi ⟨9, .data⟩ (by simp) rfl v9 rfl _ rfl
          have e10 : v10 = _ := hphi ⟨10, .data⟩ (by simp) rfl v10 rfl _ rfl
          have e8 : v8 = _ := hphi ⟨8, .guard⟩ (by simp) rfl v8 rfl _ rfl
          subst e8 e9 e10
          refine .inl ⟨rfl, gives_call (f := 19) (args := #[.slice A3 m3 c3, .slice A4 m4 c4]) (by go_simp) ((sameS_any A3 A4 m3 c3 m4 c4 W.heap.size l3 l3 W (S3_6.out.on hR) (S4_6.out.on hR) M3.out).mono ?_)⟩
          rintro e W' ⟨rfl, q, rfl⟩
          exact ⟨_, rfl, below_drewN (Below.refl _ _) q, fun u hu => by cases hu; exact congrArg Value.bool (decide_eq_true rfl)⟩
        | 12, _, rfl =>
          have e8 : v8 = _ := hphi ⟨8, .data⟩ (by simp) rfl v8 rfl _ rfl
          have e11 : v11 = _ := hphi ⟨11, .data⟩ (by simp) rfl v11 rfl _ rfl
          subst e8 e11
          exact .inl ⟨rfl, gives_value (v := .bool true) (w' := W) (by go_simp) ⟨Below.refl _ _, fun u hu => by cases hu; rfl⟩⟩
        | 13, _, rfl =>
          have e12 : v12 = _ := hphi ⟨12, .data⟩ (by simp) rfl v12 rfl _ rfl
          subst e12
          exact .inl ⟨rfl, gives_value (v := .bool true) (w' := W) (by go_simp) ⟨Below.refl _ _, fun u hu => by cases hu; rfl⟩⟩
        | 14, _, rfl =>
          have e13 : v13 = _ := hphi ⟨13, .guard⟩ (by simp) rfl v13 rfl _ rfl
          subst e13
          exact .inl ⟨rfl, gives_value (v := .int .i64 e3) (w' := W) (by go_simp) ⟨Below.refl _ _, fun u hu => by cases hu; rfl⟩⟩
        | 15, _, rfl =>
          have e13 : v13 = _ := hphi ⟨13, .guard⟩ (by simp) rfl v13 rfl _ rfl
          subst e13
          exact .inl ⟨rfl, gives_value (v := .int .i64 e3) (w' := W) (by go_simp) ⟨Below.refl _ _, fun u hu => by cases hu; rfl⟩⟩
        | 16, _, rfl =>
          have e14 : v14 = _ := hphi ⟨14, .data⟩ (by simp) rfl v14 rfl _ rfl
          have e15 : v15 = _ := hphi ⟨15, .data⟩ (by simp) rfl v15 rfl _ rfl
          have e13 : v13 = _ := hphi ⟨13, .guard⟩ (by simp) rfl v13 rfl _ rfl
          subst e13 e14 e15
          exact .inl ⟨rfl, gives_value (v := .bool true) (w' := W) (by go_simp) ⟨Below.refl _ _, fun u hu => by cases hu; rfl⟩⟩
        | 17, _, rfl =>
          have e13 : v13 = _ := hphi ⟨13, .data⟩ (by simp) rfl v13 rfl _ rfl
          have e16 : v16 = _ := hphi ⟨16, .data⟩ (by simp) rfl v16 rfl _ rfl
          subst e13 e16
          exact .inl ⟨rfl, gives_value (v := .bool true) (w' := W) (by go_simp) ⟨Below.refl _ _, fun u hu => by cases hu; rfl⟩⟩
        | 18, _, rfl =>
          have e17 : v17 = _ := hphi ⟨17, .data⟩ (by simp) rfl v17 rfl _ rfl
          subst e17
          exact .inl ⟨rfl, gives_value (v := .bool true) (w' := W) (by go_simp) ⟨Below.refl _ _, fun u hu => by cases hu; rfl⟩⟩
        | 19, _, rfl =>
          have e18 : v18 = _ := hphi ⟨18, .guard⟩ (by simp) rfl v18 rfl _ rfl
          subst e18
          exact .inl ⟨rfl, gives_value (v := .slice A5 m5 c5) (w' := W) (by go_simp) ⟨Below.refl _ _, fun u hu => by cases hu; rfl⟩⟩
        | 20, _, rfl =>
          have e18 : v18 = _ := hphi ⟨18, .guard⟩ (by simp) rfl v18 rfl _ rfl
          subst e18
          exact .inl ⟨rfl, gives_value (v := .slice A6 m6 c6) (w' := W) (by go_simp) ⟨Below.refl _ _, fun u hu => by cases hu; rfl⟩⟩
        | 21, _, rfl =>
          have e19 : v19 = _ := hphi ⟨19, .data⟩ (by simp) rfl v19 rfl _ rfl
          have e20 : v20 = _ := hphi ⟨20, .data⟩ (by simp) rfl v20 rfl _ rfl
          have e18 : v18 = _ := hphi ⟨18, .guard⟩ (by simp) rfl v18 rfl _ rfl
          subst e18 e19 e20
          refine .inl ⟨rfl, gives_call (f := 19) (args := #[.slice A5 m5 c5, .slice A6 m6 c6]) (by go_simp) ((sameS_any A5 A6 m5 c5 m6 c6 W.heap.size l5 l5 W (S5_6.out.on hR) (S6_6.out.on hR) M5.out).mono ?_)⟩
          rintro e W' ⟨rfl, q, rfl⟩
          exact ⟨_, rfl, below_drewN (Below.refl _ _) q, fun u hu => by cases hu; exact congrArg Value.bool (decide_eq_true rfl)⟩
        | 22, _, rfl =>
          have e18 : v18 = _ := hphi ⟨18, .data⟩ (by simp) rfl v18 rfl _ rfl
          have e21 : v21 = _ := hphi ⟨21, .data⟩ (by simp) rfl v21 rfl _ rfl
          subst e18 e21
          exact .inl ⟨rfl, gives_value (v := .bool true) (w' := W) (by go_simp) ⟨Below.refl _ _, fun u hu => by cases hu; rfl⟩⟩
        | 23, _, rfl =>
          have e22 : v22 = _ := hphi ⟨22, .data⟩ (by simp) rfl v22 rfl _ rfl
          subst e22
          exact .inl ⟨rfl, gives_value (v := .bool true) (w' := W) (by go_simp) ⟨Below.refl _ _, fun u hu => by cases hu; rfl⟩⟩
        | 24, _, rfl =>
          have e23 : v23 = _ := hphi ⟨23, .guard⟩ (by simp) rfl v23 rfl _ rfl
          subst e23
          exact .inl ⟨rfl, gives_value (v := .int .i64 e5) (w' := W) (by go_simp) ⟨Below.refl _ _, fun u hu => by cases hu; rfl⟩⟩
        | 25, _, rfl =>
          have e23 : v23 = _ := hphi ⟨23, .guard⟩ (by simp) rfl v23 rfl _ rfl
          subst e23
          exact .inl ⟨rfl, gives_value (v := .int .i64 e5) (w' := W) (by go_simp) ⟨Below.refl _ _, fun u hu => by cases hu; rfl⟩⟩
        | 26, _, rfl =>
          have e24 : v24 = _ := hphi ⟨24, .data⟩ (by simp) rfl v24 rfl _ rfl
          have e25 : v25 = _ := hphi ⟨25, .data⟩ (by simp) rfl v25 rfl _ rfl
          have e23 : v23 = _ := hphi ⟨23, .guard⟩ (by simp) rfl v23 rfl _ rfl
          subst e23 e24 e25
          exact .inl ⟨rfl, gives_value (v := .bool true) (w' := W) (by go_simp) ⟨Below.refl _ _, fun u hu => by cases hu; rfl⟩⟩
        | 27, _, rfl =>
          have e23 : v23 = _ := hphi ⟨23, .data⟩ (by simp) rfl v23 rfl _ rfl
          have e26 : v26 = _ := hphi ⟨26, .data⟩ (by simp) rfl v26 rfl _ rfl
          subst e23 e26
          exact .inl ⟨rfl, gives_value (v := .bool true) (w' := W) (by go_simp) ⟨Below.refl _ _, fun u hu => by cases hu; rfl⟩⟩
        | 28, _, rfl =>
          have e27 : v27 = _ := hphi ⟨27, .data⟩ (by simp) rfl v27 rfl _ rfl
          subst e27
          exact .inl ⟨rfl, gives_value (v := .bool true) (w' := W) (by go_simp) ⟨Below.refl _ _, fun u hu => by cases hu; rfl⟩⟩
        | 29, _, rfl =>
          have e28 : v28 = _ := hphi ⟨28, .guard⟩ (by simp) rfl v28 rfl _ rfl
          subst e28
          exact .inl ⟨rfl, gives_value (v := .agg #[.slice A n c]) (w' := W) (by go_simp) ⟨Below.refl _ _, fun u hu => by cases hu; rfl⟩⟩
        | 30, _, rfl =>
          have e28 : v28 = _ := hphi ⟨28, .guard⟩ (by simp) rfl v28 rfl _ rfl
          subst e28
          exact .inl ⟨rfl, gives_value (v := .slice pA pn pc) (w' := W) (by go_simp) ⟨Below.refl _ _, fun u hu => by cases hu; rfl⟩⟩
        | 31, _, rfl =>
          have e29 : v29 = _ := hphi ⟨29, .data⟩ (by simp) rfl v29 rfl _ rfl
          have e30 : v30 = _ := hphi ⟨30, .data⟩ (by simp) rfl v30 rfl _ rfl
          have e28 : v28 = _ := hphi ⟨28, .guard⟩ (by simp) rfl v28 rfl _ rfl
          subst e28 e29 e30
          refine .inl ⟨rfl, gives_call (f := 37) (args := #[.agg #[.slice A n c], .slice pA pn pc]) (by go_simp) ((affected_any A n c w.heap.size ts pA pn pc ps W ((H0.out.below HB6.out (Nat.le_refl _)).below hR (by omega)) (fun t ht => ((HOK.out t ht).below HB6.out (Nat.le_refl _)).below hR (by omega)) ((HP.out.below HB6.out (Nat.le_refl _)).below hR (by omega)) (Nat.le_trans HB6.out.size hR.size) hnc hcm hpm HPS.out).mono ?_)⟩
          rintro e W' ⟨xa, xm, xc, xl, rfl, xs, xn, xk, xr, hb2⟩
          exact ⟨_, rfl, hb2, ⟨xa, xm, xc, xl, rfl, xs, Nat.le_trans xn xk, xr⟩⟩
        | 32, _, rfl =>
          have e28 : v28 = _ := hphi ⟨28, .guard⟩ (by simp) rfl v28 rfl _ rfl
          subst e28
          exact .inl ⟨rfl, gives_value (v := .agg #[.slice A n c]) (w' := W) (by go_simp) ⟨Below.refl _ _, fun u hu => by cases hu; rfl⟩⟩
        | 33, _, rfl =>
          have e28 : v28 = _ := hphi ⟨28, .guard⟩ (by simp) rfl v28 rfl _ rfl
          subst e28
          exact .inl ⟨rfl, gives_value (v := .slice pA pn pc) (w' := W) (by go_simp) ⟨Below.refl _ _, fun u hu => by cases hu; rfl⟩⟩
        | 34, _, rfl =>
          have e32 : v32 = _ := hphi ⟨32, .data⟩ (by simp) rfl v32 rfl _ rfl
          have e33 : v33 = _ := hphi ⟨33, .data⟩ (by simp) rfl v33 rfl _ rfl
          have e28 : v28 = _ := hphi ⟨28, .guard⟩ (by simp) rfl v28 rfl _ rfl
          subst e28 e32 e33
          refine .inl ⟨rfl, gives_call (f := 38) (args := #[.agg #[.slice A n c], .slice pA pn pc]) (by go_simp) ((raffected_any A n c w.heap.size ts pA pn pc ps W ((H0.out.below HB6.out (Nat.le_refl _)).below hR (by omega)) (fun t ht => ((HOK.out t ht).below HB6.out (Nat.le_refl _)).below hR (by omega)) ((HP.out.below HB6.out (Nat.le_refl _)).below hR (by omega)) (Nat.le_trans HB6.out.size hR.size) hnc hcm hpm).mono ?_)⟩
          rintro e W' ⟨xa, xm, xc, xl, rfl, xs, xn, xk, xr, hb2⟩
          exact ⟨_, rfl, hb2, ⟨xa, xm, xc, xl, rfl, xs, Nat.le_trans xn xk, xr⟩⟩
        | 35, _, rfl =>
          obtain ⟨ya, ym, yc, yl, rfl, ys, yn, yr⟩ : (AfV ts ps) v31 W := hphi ⟨31, .data⟩ (by simp) rfl v31 rfl
          obtain ⟨za, zm, zc, zl, rfl, zs, zn, zr⟩ : (AfV ts ps) v34 W := hphi ⟨34, .data⟩ (by simp) rfl v34 rfl
          have e28 : v28 = _ := hphi ⟨28, .guard⟩ (by simp) rfl v28 rfl _ rfl
          subst e28
          refine .inl ⟨rfl, gives_call (f := 19) (args := #[.slice ya ym yc, .slice za zm zc]) (by go_simp) ((sameS_any ya za ym yc zm zc W.heap.size yl zl W ys zs yn).mono ?_)⟩
          rintro e W' ⟨rfl, q, rfl⟩
          exact ⟨_, rfl, below_drewN (Below.refl _ _) q, fun u hu => by cases hu; exact congrArg Value.bool (decide_eq_true (yr.same zr))⟩
        | 36, _, rfl =>
          have e28 : v28 = _ := hphi ⟨28, .data⟩ (by simp) rfl v28 rfl _ rfl
          have e35 : v35 = _ := hphi ⟨35, .data⟩ (by simp) rfl v35 rfl _ rfl
          subst e28 e35
          exact .inl ⟨rfl, gives_value (v := .bool true) (w' := W) (by go_simp) ⟨Below.refl _ _, fun u hu => by cases hu; rfl⟩⟩
        | 37, _, rfl =>
          have e36 : v36 = _ := hphi ⟨36, .data⟩ (by simp) rfl v36 rfl _ rfl
          subst e36
          exact .inl ⟨rfl, gives_value (v := .bool true) (w' := W) (by go_simp) ⟨Below.refl _ _, fun u hu => by cases hu; rfl⟩⟩
        | 38, _, rfl =>
          have e37 : v37 = _ := hphi ⟨37, .guard⟩ (by simp) rfl v37 rfl _ rfl
          subst e37
          refine .inl ⟨rfl, gives_call (f := 12) (args := #[]) (by go_simp) ((awake_any W).mono ?_)⟩
          rintro e W' ⟨rfl, hb2⟩
          exact ⟨_, rfl, hb2, fun u hu => by cases hu; rfl⟩
        | 39, _, rfl =>
          have e37 : v37 = _ := hphi ⟨37, .data⟩ (by simp) rfl v37 rfl _ rfl
          have e38 : v38 = _ := hphi ⟨38, .data⟩ (by simp) rfl v38 rfl _ rfl
          subst e37 e38
          exact .inl ⟨rfl, gives_value (v := .bool true) (w' := W) (by go_simp) ⟨Below.refl _ _, fun u hu => by cases hu; rfl⟩⟩
        | i + 40, hi, _ => exact absurd hi (by omega)
      case tailA =>
        intro vs W hv hR hphi
        obtain ⟨v0, v1, v2, v3, v4, v5, v6, v7, v8, v9, v10, v11, v12, v13, v14, v15, v16, v17, v18, v19, v20, v21, v22, v23, v24, v25, v26, v27, v28, v29, v30, v31, v32, v33, v34, v35, v36, v37, v38, v39, rfl⟩ := ls40 hv
        simp only [List.zip, List.zipWith, putAll, Act.put, List.setIfInBounds_toArray, List.set, List.drop]
        have e0 : v0 = _ := hphi 0 v0 rfl _ rfl
        have e1 : v1 = _ := hphi 1 v1 rfl _ rfl
        have e2 : v2 = _ := hphi 2 v2 rfl _ rfl
        have e3 : v3 = _ := hphi 3 v3 rfl _ rfl
        have e4 : v4 = _ := hphi 4 v4 rfl _ rfl
        have e5 : v5 = _ := hphi 5 v5 rfl _ rfl
        have e6 : v6 = _ := hphi 6 v6 rfl _ rfl
        have e7 : v7 = _ := hphi 7 v7 rfl _ rfl
        have e8 : v8 = _ := hphi 8 v8 rfl _ rfl
        have e9 : v9 = _ := hphi 9 v9 rfl _ rfl
        have e10 : v10 = _ := hphi 10 v10 rfl _ rfl
        have e11 : v11 = _ := hphi 11 v11 rfl _ rfl
        have e12 : v12 = _ := hphi 12 v12 rfl _ rfl
        have e13 : v13 = _ := hphi 13 v13 rfl _ rfl
        have e14 : v14 = _ := hphi 14 v14 rfl _ rfl
        have e15 : v15 = _ := hphi 15 v15 rfl _ rfl
        have e16 : v16 = _ := hphi 16 v16 rfl _ rfl
        have e17 : v17 = _ := hphi 17 v17 rfl _ rfl
        have e18 : v18 = _ := hphi 18 v18 rfl _ rfl
        have e19 : v19 = _ := hphi 19 v19 rfl _ rfl
        have e20 : v20 = _ := hphi 20 v20 rfl _ rfl
        have e21 : v21 = _ := hphi 21 v21 rfl _ rfl
        have e22 : v22 = _ := hphi 22 v22 rfl _ rfl
        have e23 : v23 = _ := hphi 23 v23 rfl _ rfl
        have e24 : v24 = _ := hphi 24 v24 rfl _ rfl
        have e25 : v25 = _ := hphi 25 v25 rfl _ rfl
        have e26 : v26 = _ := hphi 26 v26 rfl _ rfl
        have e27 : v27 = _ := hphi 27 v27 rfl _ rfl
        have e28 : v28 = _ := hphi 28 v28 rfl _ rfl
        have e29 : v29 = _ := hphi 29 v29 rfl _ rfl
        have e30 : v30 = _ := hphi 30 v30 rfl _ rfl
        have e31 : (AfV ts ps) v31 W := hphi 31 v31 rfl
        have e32 : v32 = _ := hphi 32 v32 rfl _ rfl
        have e33 : v33 = _ := hphi 33 v33 rfl _ rfl
        have e34 : (AfV ts ps) v34 W := hphi 34 v34 rfl
        have e35 : v35 = _ := hphi 35 v35 rfl _ rfl
        have e36 : v36 = _ := hphi 36 v36 rfl _ rfl
        have e37 : v37 = _ := hphi 37 v37 rfl _ rfl
        have e38 : v38 = _ := hphi 38 v38 rfl _ rfl
        have e39 : v39 = _ := hphi 39 v39 rfl _ rfl
        subst e0 e1 e2 e3 e4 e5 e6 e7 e8 e9 e10 e11 e12 e13 e14 e15 e16 e17 e18 e19 e20 e21 e22 e23 e24 e25 e26 e27 e28 e29 e30 e32 e33 e35 e36 e37 e38 e39
        clear hphi hv
        clear e31 e34
        have HBz : Hid (Below w.heap.size w W) := HB6.out.trans (hR.mono HB6.out.size)
        clear hR
        go_wp2_with fail
        go_ret
        exact ⟨rfl, HBz.out⟩
end Go.Proofs.YtddlohbhchjjhaaGreatDoor
