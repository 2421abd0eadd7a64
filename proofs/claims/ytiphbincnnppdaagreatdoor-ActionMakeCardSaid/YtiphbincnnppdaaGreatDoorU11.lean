/-
  Lemmas: ActionDifferent.
-/
import Derived.Test.YtiphbincnnppdaaGreatDoorU10

namespace Go.Proofs.YtiphbincnnppdaaGreatDoor
open Go.RowKit Go.Maps

theorem list4 {vs : List Value} (h : vs.length = 4) : ∃ v0 v1 v2 v3, vs = [v0, v1, v2, v3] := by
  match vs, h with
  | [v0, v1, v2, v3], _ => exact ⟨_, _, _, _, rfl⟩
theorem encN_cancel {m m' : Nat} {r r' : Bytes} (h : m ≤ 1099511627776) (h' : m' ≤ 1099511627776) (e : encN m ++ r = encN m' ++ r') : m = m' ∧ r = r' := by
  have e1 := getI_enc h r
  rw [e, getI_enc h' r'] at e1
  have e2 : m = m' := (Prod.ext_iff.1 e1).1.symm
  subst e2
  exact ⟨rfl, List.append_cancel_left e⟩
theorem encT_cancel {t t' r r' : Bytes} (h : t.length ≤ 65536) (h' : t'.length ≤ 65536) (e : encT t ++ r = encT t' ++ r') : t = t' ∧ r = r' := by
  have e1 := getT_enc h r
  rw [e, getT_enc h' r'] at e1
  have e2 : t = t' := (Prod.ext_iff.1 e1).1.symm
  subst e2
  exact ⟨rfl, List.append_cancel_left e⟩
theorem encIs_inj : ∀ {fs gs : List Ipt}, fs.length = gs.length → (∀ f ∈ fs, f.1.size ≤ 98 ∧ WfD f.2) → (∀ f ∈ gs, f.1.size ≤ 98 ∧ WfD f.2) → encIs fs = encIs gs → fs = gs
  | [], [], _, _, _, _ => rfl
  | f :: fs, [], h, _, _, _ => by simp at h
  | [], g :: gs, h, _, _, _ => by simp at h
  | f :: fs, g :: gs, hl, hf, hg, e => by
    have a1 := hf f (by simp); have b1 := hg g (by simp)
    have e' : encT (toL f.1) ++ (encT (digB f.2) ++ encIs fs) = encT (toL g.1) ++ (encT (digB g.2) ++ encIs gs) := by
      simpa [encIs, List.append_assoc] using e
    obtain ⟨c1, c2⟩ := encT_cancel (by rw [← size_toL]; omega) (by rw [← size_toL]; omega) e'
    obtain ⟨c3, c4⟩ := encT_cancel (by rw [digB_len]; omega) (by rw [digB_len]; omega) c2
    have ih := encIs_inj (fs := fs) (gs := gs) (by simpa using hl) (fun x hx => hf x (by simp [hx])) (fun x hx => hg x (by simp [hx])) c4
    have d1 : f.2 = g.2 := by
      have h1 := dg_digB a1.2 []; have h2 := dg_digB b1.2 []
      rw [List.append_nil] at h1 h2
      rw [← h1, ← h2, c3]
    have n1 : f.1 = g.1 := by rw [← ofL_toL f.1, ← ofL_toL g.1, c1]
    rw [ih, show f = g from Prod.ext n1 d1]
theorem encA_inj {ka kb : Nat} {la lb : ByteArray} {fs gs : List Ipt} (hka : ka ≤ 3) (hkb : kb ≤ 3) (hla : la.size ≤ 90) (hlb : lb.size ≤ 90) (hfl : fs.length ≤ 300) (hgl : gs.length ≤ 300) (hf : ∀ f ∈ fs, f.1.size ≤ 98 ∧ WfD f.2) (hg : ∀ f ∈ gs, f.1.size ≤ 98 ∧ WfD f.2)
    (e : encA ka la fs = encA kb lb gs) : ka = kb ∧ la = lb ∧ fs = gs := by
  have e' : encN ka ++ (encT (toL la) ++ (encN fs.length ++ encIs fs)) = encN kb ++ (encT (toL lb) ++ (encN gs.length ++ encIs gs)) := by
    simpa [encA, List.append_assoc] using e
  obtain ⟨c1, c2⟩ := encN_cancel (by omega) (by omega) e'
  obtain ⟨c3, c4⟩ := encT_cancel (by rw [← size_toL]; omega) (by rw [← size_toL]; omega) c2
  obtain ⟨c5, c6⟩ := encN_cancel (by omega) (by omega) c4
  exact ⟨c1, by rw [← ofL_toL la, ← ofL_toL lb, c3], encIs_inj c5 hf hg c6⟩
theorem encA_len {kn : Nat} {lab : ByteArray} {fs : List Ipt} (hkn : kn ≤ 3) (hl90 : lab.size ≤ 90) (hl300 : fs.length ≤ 300) (hfl : ∀ f ∈ fs, f.1.size ≤ 98) : (encA kn lab fs).length ≤ 40000 := by
  have h1 := encN_len 5 kn (by omega)
  have h2 := encT_len2 hl90 (by omega)
  have h3 := encN_len 5 fs.length (by omega)
  have h4 := encIs_len hfl
  unfold encA
  rw [List.length_append, List.length_append, List.length_append]; omega

set_option maxRecDepth 100000 in
set_option maxHeartbeats 8000000 in
theorem lawDif_any (kd kd2 : Int) (la lb : ByteArray) (A A2 : Option Addr) (n c n2 c2 B : Nat) (fs gs : List Ipt) (w : World) (h0 : Sl w B 3 A n (flat ipC fs)) (h1 : Sl w B 3 A2 n2 (flat ipC gs)) (hB : B ≤ w.heap.size) (hwf : ∀ f ∈ fs, WfD f.2) (hwg : ∀ f ∈ gs, WfD f.2) :
    Calls Tryz.prog 5 #[.agg #[.int .i64 kd, .string la, .slice A n c], .agg #[.int .i64 kd2, .string lb, .slice A2 n2 c2]] w (LawEnd w) := by
  have HL := Lib.hid (h0.len ipC_len (by omega)); have HL2 := Lib.hid (h1.len ipC_len (by omega))
  obtain ⟨W, hW⟩ : ∃ W, (w.alloc (.cells #[.int .i64 kd, .string la, .slice A n c] 31)).alloc (.cells #[.int .i64 kd2, .string lb, .slice A2 n2 c2] 31) = W := ⟨_, rfl⟩
  have HB0 : Hid (Below w.heap.size w W) := by rw [← hW]; exact ((Below.refl w.heap.size w).alloc (Nat.le_refl _) _).alloc (by simp) _
  have K0 : Hid (Bk W w.heap.size 31 #[.int .i64 kd, .string la, .slice A n c]) := by rw [← hW]; exact (Bk.new w _ _).alloc _
  have L0 : Hid (Bk W (w.heap.size + 1) 31 #[.int .i64 kd2, .string lb, .slice A2 n2 c2]) := by
    rw [← hW]
    have := Bk.new (w.alloc (.cells #[.int .i64 kd, .string la, .slice A n c] 31)) 31 #[.int .i64 kd2, .string lb, .slice A2 n2 c2]
    rw [World.size_alloc] at this
    exact this
  have zW : W.heap.size = w.heap.size + 2 := by rw [← hW]; simp
  have u0 := K0.out.cell 0; have u1 := K0.out.cell 1; have u2 := K0.out.cell 2
  simp at u0 u1 u2
  have H0 := Lib.hid h0; have H1 := Lib.hid h1; have HWF := Lib.hid hwf; have HWG := Lib.hid hwg
  have HGR := Lib.hid (greatA_any kd la A n c B fs W (h0.below HB0.out hB) (by omega))
  clear h0 h1 hwf hwg
  go_enter Tryz.func5, Tryz.ntmps5
  go_wp2_with fail
  refine HGR.out.mono ?_
  rintro e w1 ⟨rfl, hb1⟩
  have z1 := hb1.size
  have HB1 : Hid (Below w.heap.size w w1) := HB0.out.trans (hb1.mono (by omega))
  have K1 := Lib.hid (K0.out.below hb1 (by omega)); have L1 := Lib.hid (L0.out.below hb1 (by omega))
  clear u0 u1 u2 hb1 hW HGR K0 L0
  by_cases hsm : SmallA la fs
  case neg =>
    rw [decide_eq_false hsm]
    clear hsm
    go_wp2_with fail
    refine (awake_any _).mono ?_
    rintro e wz ⟨rfl, hbz⟩
    have HBz := Lib.hid (HB1.out.trans (hbz.mono HB1.out.size)); clear hbz
    go_wp2_with fail
    go_ret
    exact ⟨rfl, HBz.out⟩
  rw [decide_eq_true hsm]
  obtain ⟨hn20, hl200, hnm⟩ := smallA_sizes hsm
  rw [HL.out] at hn20
  have HNM := Lib.hid hnm
  clear hsm hnm
  have u0 := L1.out.cell 0; have u1 := L1.out.cell 1; have u2 := L1.out.cell 2
  simp at u0 u1 u2
  have HGR := Lib.hid (greatA_any kd2 lb A2 n2 c2 B gs w1 (H1.out.below HB1.out hB) (by omega))
  go_wp2_with fail
  refine HGR.out.mono ?_
  rintro e w2 ⟨rfl, hb2⟩
  have z2 := hb2.size
  have HB2 : Hid (Below w.heap.size w w2) := HB1.out.trans (hb2.mono (by omega))
  have K2 := Lib.hid (K1.out.below hb2 (by omega)); have L2 := Lib.hid (L1.out.below hb2 (by omega))
  clear u0 u1 u2 hb2 HGR K1 L1 HB1
  by_cases hsm : SmallA lb gs
  case neg =>
    rw [decide_eq_false hsm]
    clear hsm
    go_wp2_with fail
    refine (awake_any _).mono ?_
    rintro e wz ⟨rfl, hbz⟩
    have HBz := Lib.hid (HB2.out.trans (hbz.mono HB2.out.size)); clear hbz
    go_wp2_with fail
    go_ret
    exact ⟨rfl, HBz.out⟩
  rw [decide_eq_true hsm]
  obtain ⟨hm20, hm200, hnm⟩ := smallA_sizes hsm
  rw [HL2.out] at hm20
  have HNG := Lib.hid hnm
  clear hsm hnm
  have u0 := K2.out.cell 0; have u1 := K2.out.cell 1; have u2 := K2.out.cell 2
  simp at u0 u1 u2
  have HCK := Lib.hid (check_any kd la A n c B fs w2 (H0.out.below HB2.out hB) (by omega) (by unfold maxLen; omega) (by unfold maxLen; omega) HNM.out)
  go_wp2_with fail
  refine HCK.out.mono ?_
  rintro e w3 ⟨rfl, hb3⟩
  have z3 := hb3.size
  have HB3 : Hid (Below w.heap.size w w3) := HB2.out.trans (hb3.mono (by omega))
  have K3 := Lib.hid (K2.out.below hb3 (by omega)); have L3 := Lib.hid (L2.out.below hb3 (by omega))
  clear u0 u1 u2 hb3 HCK K2 L2 HB2
  by_cases hca : chkA kd la fs = 0
  case neg =>
    have hcb : (chkA kd la fs != 0) = true := by rw [bne_iff_ne]; exact hca
    clear hca
    go_wp2_with fail
    refine (awake_any _).mono ?_
    rintro e wz ⟨rfl, hbz⟩
    have HBz := Lib.hid (HB3.out.trans (hbz.mono HB3.out.size)); clear hbz
    go_wp2_with fail
    go_ret
    exact ⟨rfl, HBz.out⟩
  have HCA := Lib.hid hca
  rw [hca]
  clear hca
  have u0 := L3.out.cell 0; have u1 := L3.out.cell 1; have u2 := L3.out.cell 2
  simp at u0 u1 u2
  have HCK := Lib.hid (check_any kd2 lb A2 n2 c2 B gs w3 (H1.out.below HB3.out hB) (by omega) (by unfold maxLen; omega) (by unfold maxLen; omega) HNG.out)
  go_wp2_with fail
  refine HCK.out.mono ?_
  rintro e w4 ⟨rfl, hb4⟩
  have z4 := hb4.size
  have HB4 : Hid (Below w.heap.size w w4) := HB3.out.trans (hb4.mono (by omega))
  have K4 := Lib.hid (K3.out.below hb4 (by omega)); have L4 := Lib.hid (L3.out.below hb4 (by omega))
  clear u0 u1 u2 hb4 HCK K3 L3 HB3
  by_cases hcb : chkA kd2 lb gs = 0
  case neg =>
    have hcc : (chkA kd2 lb gs != 0) = true := by rw [bne_iff_ne]; exact hcb
    clear hcb
    go_wp2_with fail
    refine (awake_any _).mono ?_
    rintro e wz ⟨rfl, hbz⟩
    have HBz := Lib.hid (HB4.out.trans (hbz.mono HB4.out.size)); clear hbz
    go_wp2_with fail
    go_ret
    exact ⟨rfl, HBz.out⟩
  have HCB := Lib.hid hcb
  rw [hcb]
  clear hcb
  obtain ⟨q1, q2, q3, q4⟩ := chkA_zero HCA.out
  obtain ⟨q5, q6, q7, q8⟩ := chkA_zero HCB.out
  obtain ⟨ka, rfl⟩ : ∃ ka : Nat, kd = (ka : Int) := ⟨kd.toNat, by omega⟩
  obtain ⟨kb, rfl⟩ : ∃ kb : Nat, kd2 = (kb : Int) := ⟨kd2.toNat, by omega⟩
  have hka : ka ≤ 3 := by omega
  have hkb : kb ≤ 3 := by omega
  have LA := Lib.hid (encA_len hka q2 q3 q4); have LB := Lib.hid (encA_len hkb q6 q7 q8)
  have PA : Hid (la.size ≤ 90 ∧ fs.length ≤ 300 ∧ ∀ f ∈ fs, f.1.size ≤ 98) := ⟨q2, q3, q4⟩
  have PB : Hid (lb.size ≤ 90 ∧ gs.length ≤ 300 ∧ ∀ f ∈ gs, f.1.size ≤ 98) := ⟨q6, q7, q8⟩
  have HIN : Hid (decide (ofL (encA ka la fs) = ofL (encA kb lb gs)) = decide ((((ka : Int), la, fs) : Actn) = (((kb : Int), lb, gs) : Actn))) := by
    show _ = _
    rw [Bool.eq_iff_iff, decide_eq_true_iff, decide_eq_true_iff]
    constructor
    · intro h
      have h' : encA ka la fs = encA kb lb gs := by have := congrArg toL h; rwa [toL_ofL, toL_ofL] at this
      obtain ⟨a1, a2, a3⟩ := encA_inj hka hkb q2 q6 q3 q7 (fun f hf => ⟨q4 f hf, HWF.out f hf⟩) (fun f hf => ⟨q8 f hf, HWG.out f hf⟩) h'
      rw [a1, a2, a3]
    · intro h
      simp only [Prod.mk.injEq] at h
      rw [show ka = kb by omega, h.2.1, h.2.2]
  have HKA : Hid (keyR (ka : Int) la fs = (ofB (encA ka la fs), 0)) := by show _ = _; unfold keyR; rw [if_pos HCA.out, Int.toNat_natCast]
  have HKB : Hid (keyR (kb : Int) lb gs = (ofB (encA kb lb gs), 0)) := by show _ = _; unfold keyR; rw [if_pos HCB.out, Int.toNat_natCast]
  obtain ⟨x0, x1, hxa⟩ : ∃ x0 x1, ofB (encA ka la fs) = (x0, x1) := ⟨_, _, rfl⟩
  obtain ⟨y0, y1, hxb⟩ : ∃ y0 y1, ofB (encA kb lb gs) = (y0, y1) := ⟨_, _, rfl⟩
  have HXA := Lib.hid hxa; have HXB := Lib.hid hxb
  rw [hxa] at HKA; rw [hxb] at HKB
  clear q1 q2 q3 q4 q5 q6 q7 q8 hxa hxb HCA HCB
  have HK1 := Lib.hid (key_any (ka : Int) la A n c B fs w4 (H0.out.below HB4.out hB) (by omega) (by unfold maxLen; omega) (by unfold maxLen; omega) HNM.out HWF.out)
  have HKE : Hid (∀ W e w', KeyEnd (ka : Int) la fs W e w' → e = .returned (.tuple #[.agg #[.int .u64 x0, .int .u64 x1], .int .i64 0]) ∧ Below W.heap.size W w') := fun W e w' h => by
    unfold KeyEnd at h; rw [HKA.out] at h; exact h
  have HKF : Hid (∀ W e w', KeyEnd (kb : Int) lb gs W e w' → e = .returned (.tuple #[.agg #[.int .u64 y0, .int .u64 y1], .int .i64 0]) ∧ Below W.heap.size W w') := fun W e w' h => by
    unfold KeyEnd at h; rw [HKB.out] at h; exact h
  have u0 := K4.out.cell 0; have u1 := K4.out.cell 1; have u2 := K4.out.cell 2
  simp at u0 u1 u2
  go_wp2_with fail
  refine HK1.out.mono ?_
  rintro e w4' hke
  obtain ⟨rfl, hb5⟩ := HKE.out _ _ _ hke
  clear hke
  have z5 := hb5.size
  obtain ⟨W5, hW5⟩ : ∃ W5, w4'.alloc (.cells #[.int .u64 x0, .int .u64 x1] 42) = W5 := ⟨_, rfl⟩
  have zW5 : W5.heap.size = w4'.heap.size + 1 := by rw [← hW5]; simp
  have HB5 : Hid (Below w.heap.size w W5) := by rw [← hW5]; exact (HB4.out.trans (hb5.mono (by omega))).alloc (by omega) _
  have K5 : Hid (Bk W5 w.heap.size 31 #[.int .i64 (ka : Int), .string la, .slice A n c]) := by rw [← hW5]; exact (K4.out.below hb5 (by omega)).alloc _
  have L5 : Hid (Bk W5 (w.heap.size + 1) 31 #[.int .i64 (kb : Int), .string lb, .slice A2 n2 c2]) := by rw [← hW5]; exact (L4.out.below hb5 (by omega)).alloc _
  have D5 : Hid (Bk W5 w4'.heap.size 42 #[.int .u64 x0, .int .u64 x1]) := by rw [← hW5]; exact Bk.new w4' _ _
  have HK2 := Lib.hid (key_any (kb : Int) lb A2 n2 c2 B gs W5 (H1.out.below HB5.out hB) (by omega) (by unfold maxLen; omega) (by unfold maxLen; omega) HNG.out HWG.out)
  clear hb5 HK1 u0 u1 u2 K4 L4 HB4
  have u0 := L5.out.cell 0; have u1 := L5.out.cell 1; have u2 := L5.out.cell 2
  simp at u0 u1 u2
  go_wp2_with fail
  refine HK2.out.mono ?_
  rintro e w5 hke
  obtain ⟨rfl, hb6⟩ := HKF.out _ _ _ hke
  clear hke
  have z6 := hb6.size
  obtain ⟨W6, hW6⟩ : ∃ W6, w5.alloc (.cells #[.int .u64 y0, .int .u64 y1] 42) = W6 := ⟨_, rfl⟩
  have zW6 : W6.heap.size = w5.heap.size + 1 := by rw [← hW6]; simp
  have HB6 : Hid (Below w.heap.size w W6) := by rw [← hW6]; exact (HB5.out.trans (hb6.mono (by omega))).alloc (by omega) _
  have K6 : Hid (Bk W6 w.heap.size 31 #[.int .i64 (ka : Int), .string la, .slice A n c]) := by rw [← hW6]; exact (K5.out.below hb6 (by omega)).alloc _
  have L6 : Hid (Bk W6 (w.heap.size + 1) 31 #[.int .i64 (kb : Int), .string lb, .slice A2 n2 c2]) := by rw [← hW6]; exact (L5.out.below hb6 (by omega)).alloc _
  have D6 : Hid (Bk W6 w4'.heap.size 42 #[.int .u64 x0, .int .u64 x1]) := by rw [← hW6]; exact (D5.out.below hb6 (by omega)).alloc _
  have E6 : Hid (Bk W6 w5.heap.size 42 #[.int .u64 y0, .int .u64 y1]) := by rw [← hW6]; exact Bk.new w5 _ _
  clear hb6 HK2 u0 u1 u2 K5 L5 D5 HB5 hW5
  have u0 := K6.out.cell 0; have u1 := K6.out.cell 1; have u2 := K6.out.cell 2
  have m0 := L6.out.cell 0; have m1 := L6.out.cell 1; have m2 := L6.out.cell 2
  simp at u0 u1 u2 m0 m1 m2
  have hw6 := HB6.out.size
  go_wp2_with fail
  refine wp_region_stableGD 4 (38 :: 39 :: 40 :: 41 :: []) (by kernel_rfl) (by kernel_rfl) (by kernel_rfl) (fun W => Below W6.heap.size W6 W) (fun W W' => Below W.heap.size W W')
    (vPhi ((.agg #[.int .i64 (ka : Int), .string la, .slice A n c]) :: (.string (ofL (encA ka la fs))) :: (.agg #[.int .i64 (kb : Int), .string lb, .slice A2 n2 c2]) :: (.string (ofL (encA kb lb gs))) :: [])) (fun W W' h1 h2 => h1.trans (h2.mono h1.size)) (fun i v W W' h _ => h) (Below.refl _ _).drew ?stepA ?tailA
  case stepA =>
    intro i o vs W hi ho hv hR hphi
    obtain ⟨v0, v1, v2, v3, rfl⟩ := list4 hv
    simp only [List.zip, List.zipWith, putAll, Act.put, List.setIfInBounds_toArray, List.set]
    have hWz := hR.size
    have l0 := (hR.cell (p := ⟨w.heap.size, 0, none⟩) (by show w.heap.size < _; omega)).trans u0
    have l1 := (hR.cell (p := ⟨w.heap.size, 1, none⟩) (by show w.heap.size < _; omega)).trans u1
    have l2 := (hR.cell (p := ⟨w.heap.size, 2, none⟩) (by show w.heap.size < _; omega)).trans u2
    have o0 := (hR.cell (p := ⟨w.heap.size + 1, 0, none⟩) (by show w.heap.size + 1 < _; omega)).trans m0
    have o1 := (hR.cell (p := ⟨w.heap.size + 1, 1, none⟩) (by show w.heap.size + 1 < _; omega)).trans m1
    have o2 := (hR.cell (p := ⟨w.heap.size + 1, 2, none⟩) (by show w.heap.size + 1 < _; omega)).trans m2
    match i, hi, ho with
    | 0, _, rfl =>
      exact .inl ⟨rfl, gives_value (v := .agg #[.int .i64 (ka : Int), .string la, .slice A n c]) (w' := W) (by go_simp) ⟨Below.refl _ _, fun u hu => by cases hu; rfl⟩⟩
    | 1, _, rfl =>
      have e0 : v0 = _ := hphi ⟨0, .data⟩ (by simp) rfl v0 rfl _ rfl
      subst e0
      refine .inl ⟨rfl, gives_call (f := 18) (args := #[.agg #[.int .i64 (ka : Int), .string la, .slice A n c]]) (by go_simp) ((rencA_any ka la A n c B fs W ((H0.out.below HB6.out hB).below hR (by omega)) (by omega) (by omega) PA.out.1 (by omega) PA.out.2.2 HWF.out).mono ?_)⟩
      rintro e W' ⟨rfl, hb'⟩
      exact ⟨_, rfl, hb', fun u hu => by cases hu; rfl⟩
    | 2, _, rfl =>
      exact .inl ⟨rfl, gives_value (v := .agg #[.int .i64 (kb : Int), .string lb, .slice A2 n2 c2]) (w' := W) (by go_simp) ⟨Below.refl _ _, fun u hu => by cases hu; rfl⟩⟩
    | 3, _, rfl =>
      have e2 : v2 = _ := hphi ⟨2, .data⟩ (by simp) rfl v2 rfl _ rfl
      subst e2
      refine .inl ⟨rfl, gives_call (f := 18) (args := #[.agg #[.int .i64 (kb : Int), .string lb, .slice A2 n2 c2]]) (by go_simp) ((rencA_any kb lb A2 n2 c2 B gs W ((H1.out.below HB6.out hB).below hR (by omega)) (by omega) (by omega) PB.out.1 (by omega) PB.out.2.2 HWG.out).mono ?_)⟩
      rintro e W' ⟨rfl, hb'⟩
      exact ⟨_, rfl, hb', fun u hu => by cases hu; rfl⟩
    | i + 4, hi, _ => exact absurd hi (by omega)
  case tailA =>
    intro vs W hv hR hphi
    obtain ⟨v0, v1, v2, v3, rfl⟩ := list4 hv
    simp only [List.zip, List.zipWith, putAll, Act.put, List.setIfInBounds_toArray, List.set, List.drop]
    have e0 : v0 = _ := hphi 0 v0 rfl _ rfl
    have e1 : v1 = _ := hphi 1 v1 rfl _ rfl
    have e2 : v2 = _ := hphi 2 v2 rfl _ rfl
    have e3 : v3 = _ := hphi 3 v3 rfl _ rfl
    subst e0 e1 e2 e3
    obtain ⟨W7, hW7⟩ : ∃ W7, W = W7 := ⟨_, rfl⟩
    subst hW7
    have HB7 : Hid (Below w.heap.size w W) := HB6.out.trans (hR.mono (by omega))
    have K7 := Lib.hid (K6.out.below hR (by omega)); have L7 := Lib.hid (L6.out.below hR (by omega)); have D7 := Lib.hid (D6.out.below hR (by omega)); have E7 := Lib.hid (E6.out.below hR (by omega))
    have z7 := hR.size
    clear hR u0 u1 u2 m0 m1 m2 K6 L6 D6 E6 HB6 hW6
    have p0 := D7.out.cell 0; have p1 := D7.out.cell 1; have r0 := E7.out.cell 0; have r1 := E7.out.cell 1
    simp at p0 p1 r0 r1
    go_wp2_with fail
    refine wp_region_stableGD 17 (42 :: 43 :: 44 :: 45 :: 46 :: 47 :: 48 :: 49 :: 50 :: 51 :: 52 :: 53 :: 54 :: 55 :: 56 :: 57 :: 58 :: []) (by kernel_rfl) (by kernel_rfl) (by kernel_rfl) (fun X => Below W.heap.size W X) (fun W W' => Below W.heap.size W W')
      (vPhi ((.int .i64 0) :: (.bool false) :: (.bool false) :: (.int .i64 0) :: (.bool false) :: (.bool false) :: (.bool false) :: (.agg #[.int .u64 x0, .int .u64 x1]) :: (.string (ofL (encA ka la fs))) :: (.agg #[.int .u64 x0, .int .u64 x1]) :: (.bool false) :: (.bool false) :: (.bool false) :: (.agg #[.int .u64 y0, .int .u64 y1]) :: (.string (ofL (encA kb lb gs))) :: (.agg #[.int .u64 y0, .int .u64 y1]) :: (.bool false) :: [])) (fun W W' h1 h2 => h1.trans (h2.mono h1.size)) (fun i v W W' h _ => h) (Below.refl _ _).drew ?stepB ?tailB
    case stepB =>
      intro i o vs W2 hi ho hv hR hphi
      obtain ⟨v0, v1, v2, v3, v4, v5, v6, v7, v8, v9, v10, v11, v12, v13, v14, v15, v16, rfl⟩ := list17 hv
      simp only [List.zip, List.zipWith, putAll, Act.put, List.setIfInBounds_toArray, List.set]
      have hWz := hR.size
      have d0 := (hR.cell (p := ⟨w4'.heap.size, 0, none⟩) (by show w4'.heap.size < _; omega)).trans p0
      have d1 := (hR.cell (p := ⟨w4'.heap.size, 1, none⟩) (by show w4'.heap.size < _; omega)).trans p1
      have e0_ := (hR.cell (p := ⟨w5.heap.size, 0, none⟩) (by show w5.heap.size < _; omega)).trans r0
      have e1_ := (hR.cell (p := ⟨w5.heap.size, 1, none⟩) (by show w5.heap.size < _; omega)).trans r1
      match i, hi, ho with
      | 0, _, rfl =>
        exact .inl ⟨rfl, gives_value (v := .int .i64 0) (w' := W2) (by go_simp) ⟨Below.refl _ _, fun u hu => by cases hu; rfl⟩⟩
      | 1, _, rfl =>
        have e0 : v0 = _ := hphi ⟨0, .data⟩ (by simp) rfl v0 rfl _ rfl
        subst e0
        exact .inl ⟨rfl, gives_value (v := .bool false) (w' := W2) (by go_simp) ⟨Below.refl _ _, fun u hu => by cases hu; rfl⟩⟩
      | 2, _, rfl =>
        have e1 : v1 = _ := hphi ⟨1, .data⟩ (by simp) rfl v1 rfl _ rfl
        subst e1
        exact .inl ⟨rfl, gives_value (v := .bool false) (w' := W2) (by go_simp) ⟨Below.refl _ _, fun u hu => by cases hu; rfl⟩⟩
      | 3, _, rfl =>
        have e2 : v2 = _ := hphi ⟨2, .guard⟩ (by simp) rfl v2 rfl _ rfl
        subst e2
        exact .inl ⟨rfl, gives_value (v := .int .i64 0) (w' := W2) (by go_simp) ⟨Below.refl _ _, fun u hu => by cases hu; rfl⟩⟩
      | 4, _, rfl =>
        have e3 : v3 = _ := hphi ⟨3, .data⟩ (by simp) rfl v3 rfl _ rfl
        have e2 : v2 = _ := hphi ⟨2, .guard⟩ (by simp) rfl v2 rfl _ rfl
        subst e2 e3
        exact .inl ⟨rfl, gives_value (v := .bool false) (w' := W2) (by go_simp) ⟨Below.refl _ _, fun u hu => by cases hu; rfl⟩⟩
      | 5, _, rfl =>
        have e2 : v2 = _ := hphi ⟨2, .data⟩ (by simp) rfl v2 rfl _ rfl
        have e4 : v4 = _ := hphi ⟨4, .data⟩ (by simp) rfl v4 rfl _ rfl
        subst e2 e4
        exact .inl ⟨rfl, gives_value (v := .bool false) (w' := W2) (by go_simp) ⟨Below.refl _ _, fun u hu => by cases hu; rfl⟩⟩
      | 6, _, rfl =>
        have e5 : v5 = _ := hphi ⟨5, .data⟩ (by simp) rfl v5 rfl _ rfl
        subst e5
        exact .inl ⟨rfl, gives_value (v := .bool false) (w' := W2) (by go_simp) ⟨Below.refl _ _, fun u hu => by cases hu; rfl⟩⟩
      | 7, _, rfl =>
        have e6 : v6 = _ := hphi ⟨6, .guard⟩ (by simp) rfl v6 rfl _ rfl
        subst e6
        exact .inl ⟨rfl, gives_value (v := .agg #[.int .u64 x0, .int .u64 x1]) (w' := W2) (by go_simp) ⟨Below.refl _ _, fun u hu => by cases hu; rfl⟩⟩
      | 8, _, rfl =>
        have e6 : v6 = _ := hphi ⟨6, .guard⟩ (by simp) rfl v6 rfl _ rfl
        subst e6
        exact .inl ⟨rfl, gives_value (v := .string (ofL (encA ka la fs))) (w' := W2) (by go_simp) ⟨Below.refl _ _, fun u hu => by cases hu; rfl⟩⟩
      | 9, _, rfl =>
        have e8 : v8 = _ := hphi ⟨8, .data⟩ (by simp) rfl v8 rfl _ rfl
        have e6 : v6 = _ := hphi ⟨6, .guard⟩ (by simp) rfl v6 rfl _ rfl
        subst e6 e8
        refine .inl ⟨rfl, gives_call (f := 19) (args := #[.string (ofL (encA ka la fs))]) (by go_simp) ((of_any (ofL (encA ka la fs)) W2 (by rw [size_ofL]; have := LA.out; unfold maxLen; omega)).mono ?_)⟩
        rintro e W' ⟨rfl, hb'⟩
        exact ⟨_, rfl, hb', fun u hu => by cases hu; rw [toL_ofL, HXA.out]; rfl⟩
      | 10, _, rfl =>
        have e7 : v7 = _ := hphi ⟨7, .data⟩ (by simp) rfl v7 rfl _ rfl
        have e9 : v9 = _ := hphi ⟨9, .data⟩ (by simp) rfl v9 rfl _ rfl
        have e6 : v6 = _ := hphi ⟨6, .guard⟩ (by simp) rfl v6 rfl _ rfl
        subst e6 e7 e9
        exact .inl ⟨rfl, gives_value (v := .bool false) (w' := W2) (by go_simp) ⟨Below.refl _ _, fun u hu => by cases hu; rfl⟩⟩
      | 11, _, rfl =>
        have e6 : v6 = _ := hphi ⟨6, .data⟩ (by simp) rfl v6 rfl _ rfl
        have e10 : v10 = _ := hphi ⟨10, .data⟩ (by simp) rfl v10 rfl _ rfl
        subst e6 e10
        exact .inl ⟨rfl, gives_value (v := .bool false) (w' := W2) (by go_simp) ⟨Below.refl _ _, fun u hu => by cases hu; rfl⟩⟩
      | 12, _, rfl =>
        have e11 : v11 = _ := hphi ⟨11, .data⟩ (by simp) rfl v11 rfl _ rfl
        subst e11
        exact .inl ⟨rfl, gives_value (v := .bool false) (w' := W2) (by go_simp) ⟨Below.refl _ _, fun u hu => by cases hu; rfl⟩⟩
      | 13, _, rfl =>
        have e12 : v12 = _ := hphi ⟨12, .guard⟩ (by simp) rfl v12 rfl _ rfl
        subst e12
        exact .inl ⟨rfl, gives_value (v := .agg #[.int .u64 y0, .int .u64 y1]) (w' := W2) (by go_simp) ⟨Below.refl _ _, fun u hu => by cases hu; rfl⟩⟩
      | 14, _, rfl =>
        have e12 : v12 = _ := hphi ⟨12, .guard⟩ (by simp) rfl v12 rfl _ rfl
        subst e12
        exact .inl ⟨rfl, gives_value (v := .string (ofL (encA kb lb gs))) (w' := W2) (by go_simp) ⟨Below.refl _ _, fun u hu => by cases hu; rfl⟩⟩
      | 15, _, rfl =>
        have e14 : v14 = _ := hphi ⟨14, .data⟩ (by simp) rfl v14 rfl _ rfl
        have e12 : v12 = _ := hphi ⟨12, .guard⟩ (by simp) rfl v12 rfl _ rfl
        subst e12 e14
        refine .inl ⟨rfl, gives_call (f := 19) (args := #[.string (ofL (encA kb lb gs))]) (by go_simp) ((of_any (ofL (encA kb lb gs)) W2 (by rw [size_ofL]; have := LB.out; unfold maxLen; omega)).mono ?_)⟩
        rintro e W' ⟨rfl, hb'⟩
        exact ⟨_, rfl, hb', fun u hu => by cases hu; rw [toL_ofL, HXB.out]; rfl⟩
      | 16, _, rfl =>
        have e13 : v13 = _ := hphi ⟨13, .data⟩ (by simp) rfl v13 rfl _ rfl
        have e15 : v15 = _ := hphi ⟨15, .data⟩ (by simp) rfl v15 rfl _ rfl
        have e12 : v12 = _ := hphi ⟨12, .guard⟩ (by simp) rfl v12 rfl _ rfl
        subst e12 e13 e15
        exact .inl ⟨rfl, gives_value (v := .bool false) (w' := W2) (by go_simp) ⟨Below.refl _ _, fun u hu => by cases hu; rfl⟩⟩
      | i + 17, hi, _ => exact absurd hi (by omega)
    case tailB =>
      intro vs W2 hv hR hphi
      obtain ⟨v0, v1, v2, v3, v4, v5, v6, v7, v8, v9, v10, v11, v12, v13, v14, v15, v16, rfl⟩ := list17 hv
      simp only [List.zip, List.zipWith, putAll, Act.put, List.setIfInBounds_toArray, List.set, List.drop]
      have e0 : v0 = _ := hphi 0 v0 rfl _ rfl
      have e1 : v1 = _ := hphi 1 v1 rfl _ rfl
      have e2 : v2 = _ := hphi 2 v2 rfl _ rfl
      have e3 : v3 = _ := hphi 3 v3 rfl _ rfl
      have e4 : v4 = _ := hphi 4 v4 rfl _ rfl
      have e5 : v5 = _ := hphi 5 v5 rfl _ rfl
      have e6 : v6 = _ := hphi 6 v6 rfl _ rfl
      have e7 : v7 = _ := hphi 7 v7 rfl _ rfl
      have e8 : v8 = _ := hphi 8 v8 rfl _ rfl
      have e9 : v9 = _ := hphi 9 v9 rfl _ rfl
      have e10 : v10 = _ := hphi 10 v10 rfl _ rfl
      have e11 : v11 = _ := hphi 11 v11 rfl _ rfl
      have e12 : v12 = _ := hphi 12 v12 rfl _ rfl
      have e13 : v13 = _ := hphi 13 v13 rfl _ rfl
      have e14 : v14 = _ := hphi 14 v14 rfl _ rfl
      have e15 : v15 = _ := hphi 15 v15 rfl _ rfl
      have e16 : v16 = _ := hphi 16 v16 rfl _ rfl
      subst e0 e1 e2 e3 e4 e5 e6 e7 e8 e9 e10 e11 e12 e13 e14 e15 e16
      have HB8 : Hid (Below w.heap.size w W2) := HB7.out.trans (hR.mono (by omega))
      have K8 := Lib.hid (K7.out.below hR (by omega)); have L8 := Lib.hid (L7.out.below hR (by omega))
      have z8 := hR.size
      clear hR p0 p1 r0 r1 K7 L7 D7 E7 HB7
      have u0 := K8.out.cell 0; have u1 := K8.out.cell 1; have u2 := K8.out.cell 2
      have m0 := L8.out.cell 0; have m1 := L8.out.cell 1; have m2 := L8.out.cell 2
      simp at u0 u1 u2 m0 m1 m2
      have hsd := str_dec (ofL (encA ka la fs)) (ofL (encA kb lb gs))
      rw [HIN.out] at hsd
      have HSA := Lib.hid (sameA_any (ka : Int) (kb : Int) la lb A A2 n c n2 c2 B fs gs W2 (H0.out.below HB8.out hB) (H1.out.below HB8.out hB) (by omega) (by unfold maxLen; omega))
      generalize decide ((((ka : Int), la, fs) : Actn) = (((kb : Int), lb, gs) : Actn)) = ss at *
      go_wp2_with fail
      refine HSA.out.mono ?_
      rintro e w9 ⟨rfl, hb9⟩
      have HB9 : Hid (Below w.heap.size w w9) := HB8.out.trans (hb9.mono (by omega))
      have z9 := hb9.size
      clear hb9 HSA u0 u1 u2 m0 m1 m2
      cases ss
      all_goals
        go_wp2_with fail
        refine (awake_any _).mono ?_
        rintro e w10 ⟨rfl, hb10⟩
        have HB10 := Lib.hid (HB9.out.trans (hb10.mono (by omega))); clear hb10
        go_wp2_with fail
        go_ret
        exact ⟨rfl, HB10.out⟩
end Go.Proofs.YtiphbincnnppdaaGreatDoor
