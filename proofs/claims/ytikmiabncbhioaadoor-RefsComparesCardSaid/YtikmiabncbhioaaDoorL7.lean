/-
  RefsCompares.
-/
import Derived.Test.YtikmiabncbhioaaDoorL3
import Derived.Test.YtikmiabncbhioaaDoorL4
import Derived.Test.YtikmiabncbhioaaDoorLaw7
namespace Go.Proofs.YtikmiabncbhioaaDoor
open Go.RowKit Go.Maps

theorem bag_dig {a b c d : Int} (h : ((a, b) : Dig) = (c, d)) : a = c ∧ b = d := by simpa using h

set_option maxRecDepth 100000 in
set_option maxHeartbeats 8000000 in
theorem law7_any (A0 A1 : Option Addr) (n0 c0 n1 c1 B : Nat) (rs : List Rf) (log : List Upd) (u : Upd) (o : ByteArray) (w : World) (h0 : Sl w B 3 A0 n0 (flat rfC rs)) (h1 : Sl w B 5 A1 n1 (flat upC log)) (hB : B ≤ w.heap.size)
    (hnc : n0 ≤ c0) (hcm : c0 ≤ maxLen) (hnc1 : n1 ≤ c1) (hcm1 : c1 ≤ maxLen) (hs2 : ∀ u ∈ log, u.1.size ≤ maxLen) (hsu : u.1.size ≤ maxLen) (hso : o.size ≤ maxLen) :
    Calls Tryd.prog 7 #[.agg #[.slice A0 n0 c0, .slice A1 n1 c1], updV u, .string o] w fun e w' => e = .returned (.bool true) ∧ Below w.heap.size w w' := by
  have HL0 := Lib.hid (h0.len rfC_len (by omega)); have HL1 := Lib.hid (h1.len upC_len (by omega))
  have H0 := Lib.hid h0; have H1 := Lib.hid h1; clear h0 h1
  have HS2 := Lib.hid hs2; have HSU := Lib.hid hsu; have HSO := Lib.hid hso; clear hs2 hsu hso
  have HC := Lib.hid hcm; have HC1 := Lib.hid hcm1; clear hcm hcm1
  have HN1 := Lib.hid (Nat.le_trans hnc1 HC1.out); have HN0 := Lib.hid (Nat.le_trans hnc HC.out)
  obtain ⟨s, ⟨o0, o1⟩, ⟨q0, q1⟩⟩ := u
  show Calls Tryd.prog 7 #[.agg #[.slice A0 n0 c0, .slice A1 n1 c1], .agg #[.string s, .int .u64 o0, .int .u64 o1, .int .u64 q0, .int .u64 q1], .string o] w _
  go_enter Tryd.func7, Tryd.ntmps7
  go_wp2_with fail
  have hbel : Below w.heap.size w ((w.alloc (.cells #[.slice A0 n0 c0, .slice A1 n1 c1] 25)).alloc (.cells #[.string s, .int .u64 o0, .int .u64 o1, .int .u64 q0, .int .u64 q1] 30)) :=
    ((Below.refl _ w).alloc (Nat.le_refl _) _).alloc (by simp) _
  refine (great_any A0 A1 n0 c0 n1 c1 B rs log _ (H0.out.below hbel hB) (H1.out.below hbel hB) (by simp; omega) HN1.out).mono ?_
  rintro e w1 ⟨rfl, hb1⟩
  have k0 : Bk w1 w.heap.size 25 #[.slice A0 n0 c0, .slice A1 n1 c1] := ((Bk.new w 25 _).alloc _).below hb1 (by simp; omega)
  have k1 : Bk w1 (w.heap.size + 1) 30 #[.string s, .int .u64 o0, .int .u64 o1, .int .u64 q0, .int .u64 q1] := by
    have := Bk.new (w.alloc (.cells #[.slice A0 n0 c0, .slice A1 n1 c1] 25)) 30 #[.string s, .int .u64 o0, .int .u64 o1, .int .u64 q0, .int .u64 q1]
    rw [World.size_alloc] at this
    exact this.below hb1 (by simp)
  have HB1 : Hid (Below w.heap.size w w1) := hbel.trans (hb1.mono (by simp; omega))
  have hz1 : w.heap.size + 2 ≤ w1.heap.size := by have := hb1.size; simp at this; omega
  clear hb1 hbel
  have K0 := Lib.hid k0; have K1 := Lib.hid k1
  obtain ⟨x0, x1, _, _⟩ := k0.agg
  have u0 := k1.cell 0; have u1 := k1.cell 1; have u2 := k1.cell 2; have u3 := k1.cell 3; have u4 := k1.cell 4
  simp at u0 u1 u2 u3 u4
  clear k0 k1
  cases hg : greatB rs log with
  | true =>
    go_wp2_with fail
    refine (awake_any _).mono ?_
    rintro e wz ⟨rfl, hbz⟩
    have HBz := Lib.hid (HB1.out.trans (hbz.mono (by omega))); clear hbz
    go_wp2_with fail
    go_ret
    exact ⟨rfl, HBz.out⟩
  | false =>
    have hlens := great_small hg
    rw [HL0.out, HL1.out] at hlens
    obtain ⟨l0, l1⟩ := hlens
    clear hg
    by_cases hlen : 150 < s.size
    · go_wp2_with fail
      refine (awake_any _).mono ?_
      rintro e wz ⟨rfl, hbz⟩
      have HBz := Lib.hid (HB1.out.trans (hbz.mono (by omega))); clear hbz
      go_wp2_with fail
      go_ret
      exact ⟨rfl, HBz.out⟩
    · by_cases hlo : 150 < o.size
      · go_wp2_with fail
        refine (awake_any _).mono ?_
        rintro e wz ⟨rfl, hbz⟩
        have HBz := Lib.hid (HB1.out.trans (hbz.mono (by omega))); clear hbz
        go_wp2_with fail
        go_ret
        exact ⟨rfl, HBz.out⟩
      · go_wp2_with fail
        refine (check_any A0 A1 n0 c0 n1 c1 B rs log _ (H0.out.below HB1.out hB) (H1.out.below HB1.out hB) (by omega) HN0.out HN1.out HS2.out).mono ?_
        rintro e w2 ⟨rfl, hb2⟩
        have hz2 := hb2.size
        have K02 := Lib.hid (K0.out.below hb2 (by omega)); have K12 := Lib.hid (K1.out.below hb2 (by omega))
        have HB2 := Lib.hid (HB1.out.trans (hb2.mono (by omega)))
        clear hb2 x0 x1 u0 u1 u2 u3 u4
        obtain ⟨x0, x1, _, _⟩ := K02.out.agg
        have u0 := K12.out.cell 0; have u1 := K12.out.cell 1; have u2 := K12.out.cell 2; have u3 := K12.out.cell 3; have u4 := K12.out.cell 4
        simp at u0 u1 u2 u3 u4
        by_cases hc : checkE rs log = 0
        · have HCE := Lib.hid hc
          have HF := Lib.hid (fits_iff (u := (s, (o0, o1), (q0, q1))) hc (by rw [HL1.out]; omega))
          have HAF := Lib.hid (after_get (u := (s, (o0, o1), (q0, q1))) hc (by rw [HL1.out]; omega))
          rw [HCE.out]
          clear hc
          go_wp2_with fail
          refine (goGet_any A0 A1 n0 c0 n1 c1 B rs log s _ (H0.out.below HB2.out hB) (H1.out.below HB2.out hB) (by omega) HN0.out HN1.out HSU.out HS2.out).mono ?_
          generalize hgr : getR rs log s = gr
          have HGR := Lib.hid hgr; clear hgr
          obtain ⟨⟨g0, g1⟩, ge⟩ := gr
          rintro e w3 ⟨rfl, hb3⟩
          simp only
          have hz3 := hb3.size
          have K03 := Lib.hid ((K02.out.below hb3 (by omega)).alloc (.cells #[.int .u64 g0, .int .u64 g1] 28)); have K13 := Lib.hid ((K12.out.below hb3 (by omega)).alloc (.cells #[.int .u64 g0, .int .u64 g1] 28)); have K73 := Lib.hid (Bk.new w3 28 #[.int .u64 g0, .int .u64 g1])
          have HB3 : Hid (Below w.heap.size w (w3.alloc (.cells #[.int .u64 g0, .int .u64 g1] 28))) := (HB2.out.trans (hb3.mono (by omega))).alloc (by omega) _
          clear hb3 x0 x1 u0 u1 u2 u3 u4
          obtain ⟨x0, x1, _, _⟩ := K03.out.agg
          have u0 := K13.out.cell 0; have u1 := K13.out.cell 1; have u2 := K13.out.cell 2; have u3 := K13.out.cell 3; have u4 := K13.out.cell 4
          simp at u0 u1 u2 u3 u4
          go_wp2_with fail
          refine (update_any A0 A1 n0 c0 n1 c1 B rs log (s, (o0, o1), (q0, q1)) _ (H0.out.below HB3.out hB) (H1.out.below HB3.out hB) (by simp; omega) HN0.out HN1.out HSU.out HS2.out).mono ?_
          generalize hru : updateR rs log (s, (o0, o1), (q0, q1)) = r at *
          have HRU := Lib.hid hru; clear hru
          obtain ⟨ra, rb, x⟩ := r
          rintro e w4 ⟨A3, n3, c3, A4, n4, c4, rfl, a1, a2, a3, a4, a5, a6, hb4⟩
          simp only at a1 a4 HF HAF ⊢
          have hz4 : w3.heap.size + 1 ≤ w4.heap.size := by have := hb4.size; simp at this; omega
          have K04 := Lib.hid ((K03.out.below hb4 (by simp; omega)).alloc (.cells #[.slice A3 n3 c3, .slice A4 n4 c4] 25)); have K14 := Lib.hid ((K13.out.below hb4 (by simp; omega)).alloc (.cells #[.slice A3 n3 c3, .slice A4 n4 c4] 25)); have K74 := Lib.hid ((K73.out.below hb4 (by simp)).alloc (.cells #[.slice A3 n3 c3, .slice A4 n4 c4] 25)); have K94 := Lib.hid (Bk.new w4 25 #[.slice A3 n3 c3, .slice A4 n4 c4])
          have HB4 : Hid (Below w.heap.size w (w4.alloc (.cells #[.slice A3 n3 c3, .slice A4 n4 c4] 25))) := (HB3.out.trans (hb4.mono (by simp; omega))).alloc (by omega) _
          have S3 := Lib.hid (a1.boxed (.cells #[.slice A3 n3 c3, .slice A4 n4 c4] 25)); have S4 := Lib.hid (a4.boxed (.cells #[.slice A3 n3 c3, .slice A4 n4 c4] 25)); have M3 := Lib.hid (Nat.le_trans a2 a3); have M4 := Lib.hid (Nat.le_trans a5 a6)
          clear hb4 a1 a2 a3 a4 a5 a6 x0 x1 u0 u1 u2 u3 u4
          obtain ⟨x0, x1, _, _⟩ := K04.out.agg
          have u0 := K14.out.cell 0; have u1 := K14.out.cell 1; have u2 := K14.out.cell 2; have u3 := K14.out.cell 3; have u4 := K14.out.cell 4
          simp at u0 u1 u2 u3 u4
          obtain ⟨v0, v1, _, _⟩ := K74.out.agg
          have HF2 : Hid (x = 0 ↔ (ge ≠ 6 ∧ ((o0, o1) : Dig) ≠ (q0, q1) ∧ ((g0, g1) : Dig) = (o0, o1))) := by
            have := HF.out
            rw [HGR.out] at this
            exact this
          clear HF
          by_cases he6 : ge = 6
          · have hx : x ≠ 0 := fun h => (HF2.out.1 h).1 he6
            have t0 : (ge != 6) = false := by rw [he6]; rfl
            have t9 : (x == 0) = false := by rw [beq_eq_false_iff_ne]; exact hx
            have t8 : (x != 0) = true := by rw [bne_iff_ne]; exact hx
            clear he6 hx
            go_wp2_with fail
            refine (awake_any _).mono ?_
            rintro e wz ⟨rfl, hbz⟩
            have HBz := Lib.hid (HB4.out.trans (hbz.mono (by simp; omega))); clear hbz
            go_wp2_with fail
            go_ret
            exact ⟨rfl, HBz.out⟩
          · have t0 : (ge != 6) = true := by rw [bne_iff_ne]; exact he6
            by_cases heq : ((o0, o1) : Dig) = (q0, q1)
            · have hx : x ≠ 0 := fun h => (HF2.out.1 h).2.1 heq
              have t1 := dig_eq_true heq
              simp only at t1
              have t9 : (x == 0) = false := by rw [beq_eq_false_iff_ne]; exact hx
              have t8 : (x != 0) = true := by rw [bne_iff_ne]; exact hx
              clear he6 hx heq
              go_wp2_with fail
              refine (awake_any _).mono ?_
              rintro e wz ⟨rfl, hbz⟩
              have HBz := Lib.hid (HB4.out.trans (hbz.mono (by simp; omega))); clear hbz
              go_wp2_with fail
              go_ret
              exact ⟨rfl, HBz.out⟩
            · have t1 := dig_eq_false heq
              simp only at t1
              by_cases hgo : ((g0, g1) : Dig) = (o0, o1)
              · have hx : x = 0 := HF2.out.2 ⟨he6, heq, hgo⟩
                have t2 := dig_eq_true hgo
                simp only at t2
                subst hx
                have HA2 := Lib.hid (HAF.out rfl)
                clear he6 heq hgo HAF HF2
                obtain ⟨z1, z2, z3, z4⟩ := HA2.out
                have HZ1 := Lib.hid z1; have HZ2 := Lib.hid z2; have HZ3 := Lib.hid z3
                have HRS : Hid (∀ v ∈ rb, v.1.size ≤ maxLen) := by
                  show ∀ v ∈ rb, v.1.size ≤ maxLen
                  rw [z4]; exact app_size HS2.out (fun v hv => by rw [List.mem_singleton.1 hv]; exact HSU.out)
                clear z1 z2 z3 z4 HA2
                have J4 := Lib.hid (K94.out)
                obtain ⟨y0, y1, _, _⟩ := K94.out.agg
                go_wp2_with fail
                refine (goGet_any A3 A4 n3 c3 n4 c4 _ ra rb s _ S3.out S4.out (Nat.le_refl _) M3.out M4.out HSU.out HRS.out).mono ?_
                generalize getR ra rb s = gr2 at *
                obtain ⟨⟨p0, p1⟩, pe⟩ := gr2
                rintro e w5 ⟨rfl, hb5⟩
                have e01 := bag_dig HZ1.out
                have e0 : p0 = q0 := e01.1
                have e1 : p1 = q1 := e01.2
                subst p0; subst p1
                clear HZ1 e01
                simp only at HZ2 ⊢
                have hz5 : w4.heap.size + 1 ≤ w5.heap.size := by have := hb5.size; simp at this; omega
                have K05 := Lib.hid ((K04.out.below hb5 (by simp; omega)).alloc (.cells #[.int .u64 q0, .int .u64 q1] 28)); have K15 := Lib.hid ((K14.out.below hb5 (by simp; omega)).alloc (.cells #[.int .u64 q0, .int .u64 q1] 28)); have K95 := Lib.hid ((K94.out.below hb5 (by simp)).alloc (.cells #[.int .u64 q0, .int .u64 q1] 28)); have K125 := Lib.hid (Bk.new w5 28 #[.int .u64 q0, .int .u64 q1])
                have HB5 : Hid (Below w.heap.size w (w5.alloc (.cells #[.int .u64 q0, .int .u64 q1] 28))) := (HB4.out.trans (hb5.mono (by simp; omega))).alloc (by omega) _
                have T3 := Lib.hid ((S3.out.on hb5).boxed (.cells #[.int .u64 q0, .int .u64 q1] 28)); have T4 := Lib.hid ((S4.out.on hb5).boxed (.cells #[.int .u64 q0, .int .u64 q1] 28))
                clear hb5 x0 x1 u0 u1 u2 u3 u4 v0 v1 y0 y1 S3 S4
                obtain ⟨x0, x1, _, _⟩ := K05.out.agg
                go_wp2_with fail
                refine (goGet_any A0 A1 n0 c0 n1 c1 B rs log o _ (H0.out.below HB5.out hB) (H1.out.below HB5.out hB) (by simp; omega) HN0.out HN1.out HSO.out HS2.out).mono ?_
                have HZ4 := Lib.hid (HZ3.out o)
                clear HZ3
                generalize getR rs log o = gr3 at *
                obtain ⟨⟨a0, a1⟩, ae⟩ := gr3
                rintro e w6 ⟨rfl, hb6⟩
                simp only
                have hz6 : w5.heap.size + 1 ≤ w6.heap.size := by have := hb6.size; simp at this; omega
                have K16 := Lib.hid ((K15.out.below hb6 (by simp; omega)).alloc (.cells #[.int .u64 a0, .int .u64 a1] 28)); have K96 := Lib.hid ((K95.out.below hb6 (by simp; omega)).alloc (.cells #[.int .u64 a0, .int .u64 a1] 28)); have K126 := Lib.hid ((K125.out.below hb6 (by simp)).alloc (.cells #[.int .u64 a0, .int .u64 a1] 28)); have K146 := Lib.hid (Bk.new w6 28 #[.int .u64 a0, .int .u64 a1])
                have HB6 : Hid (Below w.heap.size w (w6.alloc (.cells #[.int .u64 a0, .int .u64 a1] 28))) := (HB5.out.trans (hb6.mono (by simp; omega))).alloc (by omega) _
                have U3 := Lib.hid ((T3.out.on hb6).boxed (.cells #[.int .u64 a0, .int .u64 a1] 28)); have U4 := Lib.hid ((T4.out.on hb6).boxed (.cells #[.int .u64 a0, .int .u64 a1] 28))
                clear hb6 x0 x1 T3 T4
                obtain ⟨x0, x1, _, _⟩ := K96.out.agg
                go_wp2_with fail
                refine (goGet_any A3 A4 n3 c3 n4 c4 _ ra rb o _ U3.out U4.out (Nat.le_refl _) M3.out M4.out HSO.out HRS.out).mono ?_
                generalize getR ra rb o = gr4 at *
                obtain ⟨⟨b0, b1⟩, be⟩ := gr4
                rintro e w7 ⟨rfl, hb7⟩
                simp only
                have hz7 : w6.heap.size + 1 ≤ w7.heap.size := by have := hb7.size; simp at this; omega
                have K17 := Lib.hid ((K16.out.below hb7 (by simp; omega)).alloc (.cells #[.int .u64 b0, .int .u64 b1] 28)); have K127 := Lib.hid ((K126.out.below hb7 (by simp; omega)).alloc (.cells #[.int .u64 b0, .int .u64 b1] 28)); have K147 := Lib.hid ((K146.out.below hb7 (by simp)).alloc (.cells #[.int .u64 b0, .int .u64 b1] 28))
                have HB7 : Hid (Below w.heap.size w (w7.alloc (.cells #[.int .u64 b0, .int .u64 b1] 28))) := (HB6.out.trans (hb7.mono (by simp; omega))).alloc (by omega) _
                clear hb7 x0 x1
                have u0 := K17.out.cell 0; have u1 := K17.out.cell 1; have u2 := K17.out.cell 2; have u3 := K17.out.cell 3; have u4 := K17.out.cell 4
                simp at u0 u1 u2 u3 u4
                obtain ⟨v0, v1, _, _⟩ := K127.out.agg
                obtain ⟨y0, y1, _, _⟩ := K147.out.agg
                have s1 : (q0 == q0 && q1 == q1) = true := by simp
                have s2 : ((pe == 0) = true ∧ (q0 == 0 && q1 == 0) = false) ∨ ((pe == 0) = false ∧ (q0 == 0 && q1 == 0) = true) := by
                  by_cases hq : ((q0, q1) : Dig) = (0, 0)
                  · have h1 := dig_eq_true hq
                    simp only at h1
                    exact .inr ⟨by rw [beq_eq_false_iff_ne]; exact fun h => (HZ2.out.1 h) hq, h1⟩
                  · have h1 := dig_eq_false hq
                    simp only at h1
                    exact .inl ⟨by rw [beq_iff_eq]; exact HZ2.out.2 hq, h1⟩
                clear t0 t1 t2
                rcases s2 with ⟨s2, s3⟩ | ⟨s2, s3⟩
                all_goals
                  by_cases ho : o = s
                  · have s4 : (o.toList == s.toList) = true := by rw [ho]; simp
                    clear ho
                    go_wp2_with fail
                    refine (awake_any _).mono ?_
                    rintro e wz ⟨rfl, hbz⟩
                    have HBz := Lib.hid (HB7.out.trans (hbz.mono (by simp; omega))); clear hbz
                    go_wp2_with fail
                    go_ret
                    exact ⟨rfl, HBz.out⟩
                  · have s4 : (o.toList == s.toList) = false := by
                      rw [beq_eq_false_iff_ne, ByteArray.toList_eq, ByteArray.toList_eq]; exact fun h => ho (data_inj h)
                    have hEQ := HZ4.out ho
                    simp only [Prod.mk.injEq] at hEQ
                    obtain ⟨⟨rfl, rfl⟩, rfl⟩ := hEQ
                    have s5 : (b0 == b0 && b1 == b1) = true := by simp
                    clear ho
                    go_wp2_with fail
                    refine (awake_any _).mono ?_
                    rintro e wz ⟨rfl, hbz⟩
                    have HBz := Lib.hid (HB7.out.trans (hbz.mono (by simp; omega))); clear hbz
                    go_wp2_with fail
                    go_ret
                    exact ⟨rfl, HBz.out⟩
              · have hx : x ≠ 0 := fun h => hgo (HF2.out.1 h).2.2
                have t2 := dig_eq_false hgo
                simp only at t2
                have t9 : (x == 0) = false := by rw [beq_eq_false_iff_ne]; exact hx
                have t8 : (x != 0) = true := by rw [bne_iff_ne]; exact hx
                clear he6 hx heq hgo
                go_wp2_with fail
                refine (awake_any _).mono ?_
                rintro e wz ⟨rfl, hbz⟩
                have HBz := Lib.hid (HB4.out.trans (hbz.mono (by simp; omega))); clear hbz
                go_wp2_with fail
                go_ret
                exact ⟨rfl, HBz.out⟩
        · have hne : (checkE rs log != 0) = true := by rw [bne_iff_ne]; exact hc
          clear hc
          go_wp2_with fail
          refine (awake_any _).mono ?_
          rintro e wz ⟨rfl, hbz⟩
          have HBz := Lib.hid (HB2.out.trans (hbz.mono (by omega))); clear hbz
          go_wp2_with fail
          go_ret
          exact ⟨rfl, HBz.out⟩
end Go.Proofs.YtikmiabncbhioaaDoor
