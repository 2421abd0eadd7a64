/-
  Lemmas: The reference's Patch. The chapter's example: what is stored; in plain Lean. slices.IndexFunc over a tree's entries, with tree.Get's closure. strings.Split at "/". tree.Get. tree.Store. tree.Set, tree.Remove.
-/
import Derived.Lib.SliceRun
import Derived.Test.YtmdhlkkekidknaaGreatDoorWCTli10
import Derived.Test.YtmdhlkkekidknaaGreatDoorWCTli9
import Derived.Test.YtmdhlkkekidknaaGreatDoorWCTli8
import Derived.Test.YtmdhlkkekidknaaGreatDoorWCTli7
import Derived.Test.YtmdhlkkekidknaaGreatDoorWCTli1
import Derived.Test.YtmdhlkkekidknaaGreatDoorWCTli5

namespace Go.Proofs.YtmdhlkkekidknaaGreatDoor
open Go.RowKit

theorem emp_dec (s : ByteArray) : s.toList.isEmpty = decide (s = eB) := by
  by_cases h : s = eB
  · rw [decide_eq_true h, h, ByteArray.toList_eq]; rfl
  · rw [decide_eq_false h]; exact str_emp h
theorem Bk.five {w : World} {b : Nat} {t : TypeId} {x0 x1 x2 x3 x4 : Value} (h : Bk w b t #[x0, x1, x2, x3, x4]) : w.cell? ⟨b, 0, none⟩ = some x0 ∧ w.cell? ⟨b, 1, none⟩ = some x1 ∧ w.cell? ⟨b, 2, none⟩ = some x2 ∧ w.cell? ⟨b, 3, none⟩ = some x3 ∧ w.cell? ⟨b, 4, none⟩ = some x4 := by
  have c0 := h.cell 0; have c1 := h.cell 1; have c2 := h.cell 2; have c3 := h.cell 3; have c4 := h.cell 4
  simp at c0 c1 c2 c3 c4
  exact ⟨c0, c1, c2, c3, c4⟩
set_option maxRecDepth 100000 in
set_option maxHeartbeats 32000000 in
theorem rpatch9_any (A1 : Option Addr) (n1 c1 : Nat) (A2 : Option Addr) (n c2 B : Nat) (l : List Fl) (c : List FCh) (w : World) (h1 : Sl w B 2 A1 n1 (flat flC l)) (h2 : Sl w B 5 A2 n (flat fcC c)) (hB : B ≤ w.heap.size) (hm : n1 ≤ 1000000) (hn : n ≤ 400)
    (hsl : ∀ f ∈ l, f.1.size ≤ 1000000 ∧ f.2.size ≤ 60000) (hsc : ∀ x ∈ c, x.path.size ≤ 1000000 ∧ x.new.size ≤ 60000) :
    Calls Tryz.prog 39 #[.slice A1 n1 c1, .slice A2 n c2] w (PtE l c w) := by
  have H1 := Lib.hid h1; have H2 := Lib.hid h2; have HSL := Lib.hid hsl; have HSC := Lib.hid hsc
  have HL1 := Lib.hid (h1.len flC_len (by omega)); have HL2 := Lib.hid (h2.len fcC_len (by omega))
  have HC := Lib.hid (check9_any A1 n1 c1 B l w h1 hB hm hsl)
  obtain ⟨i0, hi, hz0, hz1, hz2⟩ := info_parts infoFlI
  have Hi := Lib.hid hi; have Hz0 := Lib.hid hz0; have Hz1 := Lib.hid hz1; have Hz2 := Lib.hid hz2
  clear h1 h2 hsl hsc hi hz0 hz1 hz2
  go_enter Tryz.func39, Tryz.ntmps39
  go_wp2_with fail
  refine HC.out.mono ?_
  rintro e w2 ⟨z, rfl, hz, hb⟩
  have HZ := Lib.hid hz; have HB2 := Lib.hid hb
  clear hz hb HC
  by_cases h0 : z = 0
  case neg =>
    have t1 : (z != 0) = true := by rw [bne_iff_ne]; exact h0
    have H0' := Lib.hid h0
    clear h0
    go_wp2_with fail
    go_ret2
    exact ⟨⟨[], z, .inl ⟨z, HZ.out, H0'.out, rfl⟩, .inl ⟨H0'.out, rfl⟩⟩, HB2.out⟩
  have t1 : (z != 0) = false := by rw [h0]; rfl
  have HZ0 : Hid (TckR l 0) := by show TckR l 0; rw [← h0]; exact HZ.out
  obtain ⟨hok, hasc⟩ := ck_ok HZ0.out (fun f hf => (HSL.out f hf).2)
  have HASC := Lib.hid hasc
  have hl200 : l.length ≤ 200 := hok.few
  have hn1' : n1 ≤ 200 := by rw [← HL1.out]; exact hl200
  clear h0 hok hasc
  go_wp2_with (at_builtin; refine halt_app9 (.tmp 17) (.tmp 18) 24 rfl ?_)
  refine unhalt ?_
  refine wpList_append_apd (base := w2.heap.size) (size := 2) _ rfl (.tmp 17) (.tmp 18) 24 rfl 68 i0 _ 32 Tryz.underlying24 Hi.out Hz0.out Hz1.out Hz2.out rfl (by decide) _ 0 0 [] rfl (.inr ⟨rfl, rfl, rfl⟩) B _ n1 _ (flat flC l) rfl ((H1.out.below HB2.out hB).alloc (Nat.le_trans hB HB2.out.size) _) (flC_one _) (by unfold maxLen; omega) (by omega) (by simp) ?_
  intro A3 c3 w3 ha3 hb3 hn3 hm3 _
  rw [Nat.zero_add] at hn3
  have HN3 := Lib.hid hn3; have HM3 := Lib.hid hm3
  simp only [Nat.zero_add, List.nil_append] at ha3
  rw [Nat.zero_add]
  have HS3 := Lib.hid ha3.sl
  have HB3 : Hid (Below w.heap.size w w3) := HB2.out.trans ((((Below.refl _ w2).alloc (Nat.le_refl _) _).trans hb3).mono HB2.out.size)
  clear ha3 hb3 t1 hn3 hm3
  go_wp2_with fail
  go_loopw [7, 8] (fun q0 i wr => ∃ (k : Nat) (m : List Fl) (A' : Option Addr) (c' : Nat), k ≤ n ∧ i = .int .i64 (k : Int) ∧ q0 = .slice A' m.length c' ∧ Hid (PatAt l c k m) ∧ Hid (∀ f ∈ m, f.1.size ≤ 1000000 ∧ f.2.size ≤ 60000) ∧ Hid (Sl wr wr.heap.size 2 A' m.length (flat flC m)) ∧ Hid (Below w.heap.size w wr) ∧ Hid (m.length ≤ c' ∧ c' ≤ maxLen)) (fun _ i _ => n - (intOf i).toNat)
  case atStart => exact ⟨0, l, A3, c3, Nat.zero_le _, rfl, by rw [HL1.out], PatAt.start HASC.out, HSL.out, by rw [HL1.out]; exact HS3.out, HB3.out, by rw [HL1.out]; exact ⟨HN3.out, HM3.out⟩⟩
  case round =>
    obtain ⟨k, m, A', c', hk, rfl, rfl, hPa, hMs, hSl, hBel, hCap⟩ := hrel
    have HPA := Lib.hid hPa.out; have HMS := Lib.hid hMs.out; have HSR := Lib.hid hSl.out; have HBE := Lib.hid hBel.out
    have hml : m.length ≤ 600 := by have := hPa.out.len; omega
    have zr : w.heap.size ≤ wr.heap.size := HBE.out.size
    clear hPa hMs hSl hBel
    by_cases hlt : k < n
    · have hlz : (k : Int) < (n : Int) := by omega
      obtain ⟨b, off, x, rfl, hb, hx, y0, y1, y2, y3, y4⟩ := (H2.out.below HBE.out hB).fc hlt
      have HX := Lib.hid hx
      have hxs := HSC.out x (List.mem_of_getElem? hx)
      clear hx
      obtain ⟨xp, ho, hn', xa, xb⟩ := x
      simp only at y0 y1 y2 y3 y4 hxs
      obtain ⟨W3, hW3⟩ : ∃ W, wr.alloc (.cells #[.string xp, .bool ho, .bool hn', .string xa, .string xb] 112) = W := ⟨_, rfl⟩
      have hb3 : Below wr.heap.size wr W3 := by rw [← hW3]; exact (Below.refl _ wr).alloc (Nat.le_refl _) _
      have HK3 : Hid (Bk W3 wr.heap.size 112 #[.string xp, .bool ho, .bool hn', .string xa, .string xb]) := by rw [← hW3]; exact Bk.new wr _ _
      have HB3 : Hid (Below w.heap.size w W3) := HBE.out.trans (hb3.mono zr)
      have HS3 := Lib.hid (sl_on9 HSR.out hb3)
      have HC := Lib.hid (path9_any xp W3 hxs.1)
      have HW3 := Lib.hid hW3
      obtain ⟨q0, q1, q2, q3, q4⟩ := HK3.out.five
      rw [← hW3] at q0 q1 q2 q3 q4
      clear hb3 hW3
      go_wp2_with fail
      rw [HW3.out]
      refine HC.out.mono ?_
      rintro e w4 ⟨rfl, hb4⟩
      have HB4 : Hid (Below w.heap.size w w4) := HB3.out.trans (hb4.mono HB3.out.size)
      have HK4 := Lib.hid (HK3.out.below hb4 HK3.out.lt)
      have HS4 := Lib.hid (sl_on9 HS3.out hb4)
      clear hb4 HC HW3 q0 q1 q2 q3 q4 y0 y1 y2 y3 y4 HB3 HK3 HS3 HSR HBE
      cases hpb : pathB xp with
      | false =>
        have HCK : Hid (ckC l (prevC c k) ⟨xp, ho, hn', xa, xb⟩ = 6) := by show _ = _; unfold ckC; rw [if_pos hpb]
        have HE : Hid (patW l l none c = ([], 6)) := by
          have h := HPA.out.err HX.out (by rw [HCK.out]; decide)
          rw [HCK.out] at h; exact h
        clear hpb
        go_wp2_with fail
        go_ret2
        exact ⟨⟨[], 6, .inr ⟨HZ0.out, .inl ⟨by rw [HE.out]; decide, by rw [HE.out]⟩⟩, .inl ⟨by decide, rfl⟩⟩, HB4.out⟩
      | true =>
        have HPB := Lib.hid hpb
        clear hpb
        obtain ⟨y0, y1, y2, y3, y4⟩ := HK4.out.five
        have ea := emp_dec xa; have eb := emp_dec xb
        cases ho with
        | false =>
          cases hn' with
          | false =>
            have HCK : Hid (ckC l (prevC c k) ⟨xp, false, false, xa, xb⟩ = 1) := by
              show _ = _
              unfold ckC
              simp only [HPB.out]
              rw [if_neg (by simp), if_pos]
              show ((!false && !false) || (!false && !decide (xa = eB)) || (!false && !decide (xb = eB))) = true
              rfl
            have HE : Hid (patW l l none c = ([], 1)) := by
              have h := HPA.out.err HX.out (by rw [HCK.out]; decide)
              rw [HCK.out] at h; exact h
            go_wp2_with fail
            go_ret2
            exact ⟨⟨[], 1, .inr ⟨HZ0.out, .inl ⟨by rw [HE.out]; decide, by rw [HE.out]⟩⟩, .inl ⟨by decide, rfl⟩⟩, HB4.out⟩
          | true =>
            by_cases hxa : xa = eB
            · rw [decide_eq_true hxa] at ea
              have HXA := Lib.hid hxa
              clear hxa
              have HBAD : Hid (badC ⟨xp, false, true, xa, xb⟩ = false) := by
                show ((!false && !true) || (!false && !decide (xa = eB)) || (!true && !decide (xb = eB))) = false
                rw [decide_eq_true HXA.out]
                rfl
              cases k with
              | zero =>
                have HORD : Hid (ordC (prevC c 0) ⟨xp, false, true, xa, xb⟩ = true) := rfl
                go_wp2_with fail
                go_quiet (fail)
                obtain ⟨wq, hwq⟩ : ∃ u, u = w4.drewN nq := ⟨_, rfl⟩
                rw [← hwq]
                have HBQ : Hid (Below w.heap.size w wq) := by rw [hwq]; exact below_drewN HB4.out _
                have HKQ : Hid (Bk wq wr.heap.size 112 #[.string xp, .bool false, .bool true, .string xa, .string xb]) := by rw [hwq]; exact HK4.out.drewN _
                have HSQ : Hid (Sl wq wq.heap.size 2 A' m.length (flat flC m)) := by rw [hwq]; exact HS4.out.drewN _
                clear hwq y0 y1 y2 y3 y4 HB4 HK4 HS4
                obtain ⟨y0, y1, y2, y3, y4⟩ := HKQ.out.five
                have HC := Lib.hid (find9D_any A1 n1 c1 B l xp wq (H1.out.below HBQ.out hB) hm)
                unfold FdD at HC
                obtain ⟨bk, hbk⟩ : ∃ b, (lookF9 l xp).isSome = b := ⟨_, rfl⟩
                obtain ⟨dt, hdt⟩ : ∃ b, (lookF9 l xp).getD eB = b := ⟨_, rfl⟩
                rw [hbk, hdt] at HC
                have HBK := Lib.hid hbk; have HDT := Lib.hid hdt
                clear hbk hdt
                go_wp2_with fail
                refine HC.out.mono ?_
                rintro e w5 ⟨rfl, rfl⟩
                clear HC
                by_cases hcf : bk = false ∧ dt = xa
                case neg =>
                  have HCK : Hid (ckC l (prevC c 0) ⟨xp, false, true, xa, xb⟩ = 17) := by
                    show _ = _
                    unfold ckC
                    simp only [HPB.out, HBAD.out, HORD.out, HBK.out, HDT.out]
                    rw [if_neg (by simp), if_neg (by simp), if_neg (by simp), if_pos]
                    by_cases h1 : bk = false
                    · exact .inr (fun h2 => hcf ⟨h1, h2⟩)
                    · exact .inl h1
                  have HE : Hid (patW l l none c = ([], 17)) := by
                    have h := HPA.out.err HX.out (by rw [HCK.out]; decide)
                    rw [HCK.out] at h; exact h
                  have t2 := str_dec dt xa
                  have l1 : (dt.toList != xa.toList) = !(decide (dt = xa)) := by rw [← str_dec]; rfl
                  by_cases hb : bk = false
                  · have hne : dt ≠ xa := fun h => hcf ⟨hb, h⟩
                    subst hb
                    rw [decide_eq_false hne] at t2 l1
                    clear hne hcf
                    go_wp2_with fail
                    go_ret2
                    exact ⟨⟨[], 17, .inr ⟨HZ0.out, .inl ⟨by rw [HE.out]; decide, by rw [HE.out]⟩⟩, .inl ⟨by decide, rfl⟩⟩, HBQ.out⟩
                  · have hb' : bk = true := by cases bk <;> first | rfl | exact absurd rfl hb
                    subst hb'
                    clear hcf hb t2 l1
                    go_wp2_with fail
                    go_ret2
                    exact ⟨⟨[], 17, .inr ⟨HZ0.out, .inl ⟨by rw [HE.out]; decide, by rw [HE.out]⟩⟩, .inl ⟨by decide, rfl⟩⟩, HBQ.out⟩
                case pos =>
                  obtain ⟨rfl, rfl⟩ := hcf
                  have HCK : Hid (ckC l (prevC c 0) ⟨xp, false, true, dt, xb⟩ = 0) := by
                    show _ = _
                    unfold ckC
                    simp only [HPB.out, HBAD.out, HORD.out, HBK.out, HDT.out]
                    rw [if_neg (by simp), if_neg (by simp), if_neg (by simp), if_neg (by simp)]
                  have HNX := Lib.hid (HPA.out.next HX.out HCK.out)
                  have t2 : (dt.toList == dt.toList) = true := by simp
                  have l1 : (dt.toList != dt.toList) = false := by simp
                  obtain ⟨mx, hmx⟩ : ∃ mx, withF m (xp, xb) = mx := ⟨_, rfl⟩
                  have HNX' : Hid (PatAt l c (0 + 1) mx) := by
                    have h := HNX.out
                    unfold appC at h
                    simp only [if_true] at h
                    rw [hmx] at h; exact h
                  have HMS2 : Hid (∀ f ∈ mx, f.1.size ≤ 1000000 ∧ f.2.size ≤ 60000) := fun f hf => by
                    rw [← hmx] at hf
                    rcases mem_withF.1 hf with ⟨h1, _⟩ | rfl
                    · exact HMS.out f h1
                    · exact ⟨hxs.1, hxs.2⟩
                  have HC := Lib.hid (with9_any A' m.length c' wq.heap.size m (xp, xb) wq HSQ.out (Nat.le_refl _) (by omega) HPA.out.asc)
                  unfold FlsE fileV at HC
                  rw [hmx] at HC
                  clear hmx HNX
                  go_wp2_with fail
                  refine HC.out.mono ?_
                  rintro e w6 ⟨A6, c6, rfl, hsl6, hn6, hm6, hb6⟩
                  have HCP : Hid (mx.length ≤ c6 ∧ c6 ≤ maxLen) := ⟨hn6, hm6⟩
                  have HS6 := Lib.hid hsl6
                  have HB6 : Hid (Below w.heap.size w w6) := HBQ.out.trans (hb6.mono HBQ.out.size)
                  clear HC hsl6 hb6 hn6 hm6 y0 y1 y2 y3 y4
                  go_wp2_with fail
                  go_roundw
                  case rel => exact ⟨0 + 1, mx, A6, c6, hlt, by go_num, rfl, HNX'.out, HMS2.out, HS6.out, HB6.out, HCP.out⟩
                  case measure => simp [intOf]; omega
              | succ i =>
                obtain ⟨b3, off3, z, hA3, hb3, hz, z0, _, _, _, _⟩ := (H2.out.below HB4.out hB).fc (k := i) (by omega)
                injection hA3 with hA3
                injection hA3 with hA3 hA4
                subst hA3; subst hA4
                have hle := less_str z.path xp
                have HPV : Hid (prevC c (i + 1) = some z.path) := by show _ = _; unfold prevC; rw [if_neg (by omega), Nat.add_sub_cancel, hz]; rfl
                have hj1 : IntKind.i64.wrap (i : Int) = (i : Int) := by rw [IntKind.wrap_i64]; omega
                have hj2 : (i : Int) + 1 < (n : Int) := by omega
                have hj3 : (0 : Int) ≤ (i : Int) + 1 := by omega
                have hj4 : ((i : Int) + 1).toNat = i + 1 := by omega
                have hj5 : (0 : Int) < (i : Int) + 1 := by omega
                have hin : i < n := by omega
                clear hz
                cases hl : less z.path xp with
                | false =>
                  rw [hl] at hle
                  have HCK : Hid (ckC l (prevC c (i + 1)) ⟨xp, false, true, xa, xb⟩ = 10) := by
                    show _ = _
                    unfold ckC
                    simp only [HPB.out, HBAD.out]
                    rw [if_neg (by simp), if_neg (by simp), if_pos]
                    rw [HPV.out]; exact hl
                  have HE : Hid (patW l l none c = ([], 10)) := by
                    have h := HPA.out.err HX.out (by rw [HCK.out]; decide)
                    rw [HCK.out] at h; exact h
                  clear hl
                  go_wp2_with fail
                  go_quiet (fail)
                  go_wp2_with fail
                  go_ret2
                  exact ⟨⟨[], 10, .inr ⟨HZ0.out, .inl ⟨by rw [HE.out]; decide, by rw [HE.out]⟩⟩, .inl ⟨by decide, rfl⟩⟩, below_drewN HB4.out _⟩
                | true =>
                  rw [hl] at hle
                  have HORD : Hid (ordC (prevC c (i + 1)) ⟨xp, false, true, xa, xb⟩ = true) := by show _ = _; rw [HPV.out]; exact hl
                  clear hl
                  go_wp2_with fail
                  go_quiet (fail)
                  clear hle z0 hj1 hj2 hj3 hj4 hj5
                  obtain ⟨wq, hwq⟩ : ∃ u, u = w4.drewN nq := ⟨_, rfl⟩
                  rw [← hwq]
                  have HBQ : Hid (Below w.heap.size w wq) := by rw [hwq]; exact below_drewN HB4.out _
                  have HKQ : Hid (Bk wq wr.heap.size 112 #[.string xp, .bool false, .bool true, .string xa, .string xb]) := by rw [hwq]; exact HK4.out.drewN _
                  have HSQ : Hid (Sl wq wq.heap.size 2 A' m.length (flat flC m)) := by rw [hwq]; exact HS4.out.drewN _
                  clear hwq y0 y1 y2 y3 y4 HB4 HK4 HS4
                  obtain ⟨y0, y1, y2, y3, y4⟩ := HKQ.out.five
                  have HC := Lib.hid (find9D_any A1 n1 c1 B l xp wq (H1.out.below HBQ.out hB) hm)
                  unfold FdD at HC
                  obtain ⟨bk, hbk⟩ : ∃ b, (lookF9 l xp).isSome = b := ⟨_, rfl⟩
                  obtain ⟨dt, hdt⟩ : ∃ b, (lookF9 l xp).getD eB = b := ⟨_, rfl⟩
                  rw [hbk, hdt] at HC
                  have HBK := Lib.hid hbk; have HDT := Lib.hid hdt
                  clear hbk hdt
                  go_wp2_with fail
                  refine HC.out.mono ?_
                  rintro e w5 ⟨rfl, rfl⟩
                  clear HC
                  by_cases hcf : bk = false ∧ dt = xa
                  case neg =>
                    have HCK : Hid (ckC l (prevC c (i + 1)) ⟨xp, false, true, xa, xb⟩ = 17) := by
                      show _ = _
                      unfold ckC
                      simp only [HPB.out, HBAD.out, HORD.out, HBK.out, HDT.out]
                      rw [if_neg (by simp), if_neg (by simp), if_neg (by simp), if_pos]
                      by_cases h1 : bk = false
                      · exact .inr (fun h2 => hcf ⟨h1, h2⟩)
                      · exact .inl h1
                    have HE : Hid (patW l l none c = ([], 17)) := by
                      have h := HPA.out.err HX.out (by rw [HCK.out]; decide)
                      rw [HCK.out] at h; exact h
                    have t2 := str_dec dt xa
                    have l1 : (dt.toList != xa.toList) = !(decide (dt = xa)) := by rw [← str_dec]; rfl
                    by_cases hb : bk = false
                    · have hne : dt ≠ xa := fun h => hcf ⟨hb, h⟩
                      subst hb
                      rw [decide_eq_false hne] at t2 l1
                      clear hne hcf
                      go_wp2_with fail
                      go_ret2
                      exact ⟨⟨[], 17, .inr ⟨HZ0.out, .inl ⟨by rw [HE.out]; decide, by rw [HE.out]⟩⟩, .inl ⟨by decide, rfl⟩⟩, HBQ.out⟩
                    · have hb' : bk = true := by cases bk <;> first | rfl | exact absurd rfl hb
                      subst hb'
                      clear hcf hb t2 l1
                      go_wp2_with fail
                      go_ret2
                      exact ⟨⟨[], 17, .inr ⟨HZ0.out, .inl ⟨by rw [HE.out]; decide, by rw [HE.out]⟩⟩, .inl ⟨by decide, rfl⟩⟩, HBQ.out⟩
                  case pos =>
                    obtain ⟨rfl, rfl⟩ := hcf
                    have HCK : Hid (ckC l (prevC c (i + 1)) ⟨xp, false, true, dt, xb⟩ = 0) := by
                      show _ = _
                      unfold ckC
                      simp only [HPB.out, HBAD.out, HORD.out, HBK.out, HDT.out]
                      rw [if_neg (by simp), if_neg (by simp), if_neg (by simp), if_neg (by simp)]
                    have HNX := Lib.hid (HPA.out.next HX.out HCK.out)
                    have t2 : (dt.toList == dt.toList) = true := by simp
                    have l1 : (dt.toList != dt.toList) = false := by simp
                    obtain ⟨mx, hmx⟩ : ∃ mx, withF m (xp, xb) = mx := ⟨_, rfl⟩
                    have HNX' : Hid (PatAt l c (i + 1 + 1) mx) := by
                      have h := HNX.out
                      unfold appC at h
                      simp only [if_true] at h
                      rw [hmx] at h; exact h
                    have HMS2 : Hid (∀ f ∈ mx, f.1.size ≤ 1000000 ∧ f.2.size ≤ 60000) := fun f hf => by
                      rw [← hmx] at hf
                      rcases mem_withF.1 hf with ⟨h1, _⟩ | rfl
                      · exact HMS.out f h1
                      · exact ⟨hxs.1, hxs.2⟩
                    have HC := Lib.hid (with9_any A' m.length c' wq.heap.size m (xp, xb) wq HSQ.out (Nat.le_refl _) (by omega) HPA.out.asc)
                    unfold FlsE fileV at HC
                    rw [hmx] at HC
                    clear hmx HNX
                    go_wp2_with fail
                    refine HC.out.mono ?_
                    rintro e w6 ⟨A6, c6, rfl, hsl6, hn6, hm6, hb6⟩
                    have HCP : Hid (mx.length ≤ c6 ∧ c6 ≤ maxLen) := ⟨hn6, hm6⟩
                    have HS6 := Lib.hid hsl6
                    have HB6 : Hid (Below w.heap.size w w6) := HBQ.out.trans (hb6.mono HBQ.out.size)
                    clear HC hsl6 hb6 hn6 hm6 y0 y1 y2 y3 y4
                    go_wp2_with fail
                    go_roundw
                    case rel => exact ⟨i + 1 + 1, mx, A6, c6, hlt, by go_num, rfl, HNX'.out, HMS2.out, HS6.out, HB6.out, HCP.out⟩
                    case measure => simp [intOf]; omega
            · rw [decide_eq_false hxa] at ea
              have HXA := Lib.hid hxa
              clear hxa
              have HCK : Hid (ckC l (prevC c k) ⟨xp, false, true, xa, xb⟩ = 1) := by
                show _ = _
                unfold ckC
                simp only [HPB.out]
                rw [if_neg (by simp), if_pos]
                show ((!false && !true) || (!false && !decide (xa = eB)) || (!true && !decide (xb = eB))) = true
                rw [decide_eq_false HXA.out]
                rfl
              have HE : Hid (patW l l none c = ([], 1)) := by
                have h := HPA.out.err HX.out (by rw [HCK.out]; decide)
                rw [HCK.out] at h; exact h
              go_wp2_with fail
              go_ret2
              exact ⟨⟨[], 1, .inr ⟨HZ0.out, .inl ⟨by rw [HE.out]; decide, by rw [HE.out]⟩⟩, .inl ⟨by decide, rfl⟩⟩, HB4.out⟩
        | true =>
          cases hn' with
          | false =>
            by_cases hxb : xb = eB
            · rw [decide_eq_true hxb] at eb
              have HXB := Lib.hid hxb
              clear hxb
              have HBAD : Hid (badC ⟨xp, true, false, xa, xb⟩ = false) := by
                show ((!true && !false) || (!true && !decide (xa = eB)) || (!false && !decide (xb = eB))) = false
                rw [decide_eq_true HXB.out]
                rfl
              cases k with
              | zero =>
                have HORD : Hid (ordC (prevC c 0) ⟨xp, true, false, xa, xb⟩ = true) := rfl
                go_wp2_with fail
                go_quiet (fail)
                obtain ⟨wq, hwq⟩ : ∃ u, u = w4.drewN nq := ⟨_, rfl⟩
                rw [← hwq]
                have HBQ : Hid (Below w.heap.size w wq) := by rw [hwq]; exact below_drewN HB4.out _
                have HKQ : Hid (Bk wq wr.heap.size 112 #[.string xp, .bool true, .bool false, .string xa, .string xb]) := by rw [hwq]; exact HK4.out.drewN _
                have HSQ : Hid (Sl wq wq.heap.size 2 A' m.length (flat flC m)) := by rw [hwq]; exact HS4.out.drewN _
                clear hwq y0 y1 y2 y3 y4 HB4 HK4 HS4
                obtain ⟨y0, y1, y2, y3, y4⟩ := HKQ.out.five
                have HC := Lib.hid (find9D_any A1 n1 c1 B l xp wq (H1.out.below HBQ.out hB) hm)
                unfold FdD at HC
                obtain ⟨bk, hbk⟩ : ∃ b, (lookF9 l xp).isSome = b := ⟨_, rfl⟩
                obtain ⟨dt, hdt⟩ : ∃ b, (lookF9 l xp).getD eB = b := ⟨_, rfl⟩
                rw [hbk, hdt] at HC
                have HBK := Lib.hid hbk; have HDT := Lib.hid hdt
                clear hbk hdt
                go_wp2_with fail
                refine HC.out.mono ?_
                rintro e w5 ⟨rfl, rfl⟩
                clear HC
                by_cases hcf : bk = true ∧ dt = xa
                case neg =>
                  have HCK : Hid (ckC l (prevC c 0) ⟨xp, true, false, xa, xb⟩ = 17) := by
                    show _ = _
                    unfold ckC
                    simp only [HPB.out, HBAD.out, HORD.out, HBK.out, HDT.out]
                    rw [if_neg (by simp), if_neg (by simp), if_neg (by simp), if_pos]
                    by_cases h1 : bk = true
                    · exact .inr (fun h2 => hcf ⟨h1, h2⟩)
                    · exact .inl h1
                  have HE : Hid (patW l l none c = ([], 17)) := by
                    have h := HPA.out.err HX.out (by rw [HCK.out]; decide)
                    rw [HCK.out] at h; exact h
                  have t2 := str_dec dt xa
                  have l1 : (dt.toList != xa.toList) = !(decide (dt = xa)) := by rw [← str_dec]; rfl
                  by_cases hb : bk = true
                  · have hne : dt ≠ xa := fun h => hcf ⟨hb, h⟩
                    subst hb
                    rw [decide_eq_false hne] at t2 l1
                    clear hne hcf
                    go_wp2_with fail
                    go_ret2
                    exact ⟨⟨[], 17, .inr ⟨HZ0.out, .inl ⟨by rw [HE.out]; decide, by rw [HE.out]⟩⟩, .inl ⟨by decide, rfl⟩⟩, HBQ.out⟩
                  · have hb' : bk = false := by cases bk <;> first | rfl | exact absurd rfl hb
                    subst hb'
                    clear hcf hb t2 l1
                    go_wp2_with fail
                    go_ret2
                    exact ⟨⟨[], 17, .inr ⟨HZ0.out, .inl ⟨by rw [HE.out]; decide, by rw [HE.out]⟩⟩, .inl ⟨by decide, rfl⟩⟩, HBQ.out⟩
                case pos =>
                  obtain ⟨rfl, rfl⟩ := hcf
                  have HCK : Hid (ckC l (prevC c 0) ⟨xp, true, false, dt, xb⟩ = 0) := by
                    show _ = _
                    unfold ckC
                    simp only [HPB.out, HBAD.out, HORD.out, HBK.out, HDT.out]
                    rw [if_neg (by simp), if_neg (by simp), if_neg (by simp), if_neg (by simp)]
                  have HNX := Lib.hid (HPA.out.next HX.out HCK.out)
                  have t2 : (dt.toList == dt.toList) = true := by simp
                  have l1 : (dt.toList != dt.toList) = false := by simp
                  obtain ⟨mx, hmx⟩ : ∃ mx, wotF m xp = mx := ⟨_, rfl⟩
                  have HNX' : Hid (PatAt l c (0 + 1) mx) := by
                    have h := HNX.out
                    unfold appC at h
                    simp only [Bool.false_eq_true, if_false] at h
                    rw [hmx] at h; exact h
                  have HMS2 : Hid (∀ f ∈ mx, f.1.size ≤ 1000000 ∧ f.2.size ≤ 60000) := fun f hf => by
                    rw [← hmx] at hf
                    exact HMS.out f (mem_wotF.1 hf).1
                  have HC := Lib.hid (without9_any A' m.length c' wq.heap.size m xp wq HSQ.out (Nat.le_refl _) (by omega))
                  unfold FlsE at HC
                  rw [hmx] at HC
                  clear hmx HNX
                  go_wp2_with fail
                  refine HC.out.mono ?_
                  rintro e w6 ⟨A6, c6, rfl, hsl6, hn6, hm6, hb6⟩
                  have HCP : Hid (mx.length ≤ c6 ∧ c6 ≤ maxLen) := ⟨hn6, hm6⟩
                  have HS6 := Lib.hid hsl6
                  have HB6 : Hid (Below w.heap.size w w6) := HBQ.out.trans (hb6.mono HBQ.out.size)
                  clear HC hsl6 hb6 hn6 hm6 y0 y1 y2 y3 y4
                  go_wp2_with fail
                  go_roundw
                  case rel => exact ⟨0 + 1, mx, A6, c6, hlt, by go_num, rfl, HNX'.out, HMS2.out, HS6.out, HB6.out, HCP.out⟩
                  case measure => simp [intOf]; omega
              | succ i =>
                obtain ⟨b3, off3, z, hA3, hb3, hz, z0, _, _, _, _⟩ := (H2.out.below HB4.out hB).fc (k := i) (by omega)
                injection hA3 with hA3
                injection hA3 with hA3 hA4
                subst hA3; subst hA4
                have hle := less_str z.path xp
                have HPV : Hid (prevC c (i + 1) = some z.path) := by show _ = _; unfold prevC; rw [if_neg (by omega), Nat.add_sub_cancel, hz]; rfl
                have hj1 : IntKind.i64.wrap (i : Int) = (i : Int) := by rw [IntKind.wrap_i64]; omega
                have hj2 : (i : Int) + 1 < (n : Int) := by omega
                have hj3 : (0 : Int) ≤ (i : Int) + 1 := by omega
                have hj4 : ((i : Int) + 1).toNat = i + 1 := by omega
                have hj5 : (0 : Int) < (i : Int) + 1 := by omega
                have hin : i < n := by omega
                clear hz
                cases hl : less z.path xp with
                | false =>
                  rw [hl] at hle
                  have HCK : Hid (ckC l (prevC c (i + 1)) ⟨xp, true, false, xa, xb⟩ = 10) := by
                    show _ = _
                    unfold ckC
                    simp only [HPB.out, HBAD.out]
                    rw [if_neg (by simp), if_neg (by simp), if_pos]
                    rw [HPV.out]; exact hl
                  have HE : Hid (patW l l none c = ([], 10)) := by
                    have h := HPA.out.err HX.out (by rw [HCK.out]; decide)
                    rw [HCK.out] at h; exact h
                  clear hl
                  go_wp2_with fail
                  go_quiet (fail)
                  go_wp2_with fail
                  go_ret2
                  exact ⟨⟨[], 10, .inr ⟨HZ0.out, .inl ⟨by rw [HE.out]; decide, by rw [HE.out]⟩⟩, .inl ⟨by decide, rfl⟩⟩, below_drewN HB4.out _⟩
                | true =>
                  rw [hl] at hle
                  have HORD : Hid (ordC (prevC c (i + 1)) ⟨xp, true, false, xa, xb⟩ = true) := by show _ = _; rw [HPV.out]; exact hl
                  clear hl
                  go_wp2_with fail
                  go_quiet (fail)
                  clear hle z0 hj1 hj2 hj3 hj4 hj5
                  obtain ⟨wq, hwq⟩ : ∃ u, u = w4.drewN nq := ⟨_, rfl⟩
                  rw [← hwq]
                  have HBQ : Hid (Below w.heap.size w wq) := by rw [hwq]; exact below_drewN HB4.out _
                  have HKQ : Hid (Bk wq wr.heap.size 112 #[.string xp, .bool true, .bool false, .string xa, .string xb]) := by rw [hwq]; exact HK4.out.drewN _
                  have HSQ : Hid (Sl wq wq.heap.size 2 A' m.length (flat flC m)) := by rw [hwq]; exact HS4.out.drewN _
                  clear hwq y0 y1 y2 y3 y4 HB4 HK4 HS4
                  obtain ⟨y0, y1, y2, y3, y4⟩ := HKQ.out.five
                  have HC := Lib.hid (find9D_any A1 n1 c1 B l xp wq (H1.out.below HBQ.out hB) hm)
                  unfold FdD at HC
                  obtain ⟨bk, hbk⟩ : ∃ b, (lookF9 l xp).isSome = b := ⟨_, rfl⟩
                  obtain ⟨dt, hdt⟩ : ∃ b, (lookF9 l xp).getD eB = b := ⟨_, rfl⟩
                  rw [hbk, hdt] at HC
                  have HBK := Lib.hid hbk; have HDT := Lib.hid hdt
                  clear hbk hdt
                  go_wp2_with fail
                  refine HC.out.mono ?_
                  rintro e w5 ⟨rfl, rfl⟩
                  clear HC
                  by_cases hcf : bk = true ∧ dt = xa
                  case neg =>
                    have HCK : Hid (ckC l (prevC c (i + 1)) ⟨xp, true, false, xa, xb⟩ = 17) := by
                      show _ = _
                      unfold ckC
                      simp only [HPB.out, HBAD.out, HORD.out, HBK.out, HDT.out]
                      rw [if_neg (by simp), if_neg (by simp), if_neg (by simp), if_pos]
                      by_cases h1 : bk = true
                      · exact .inr (fun h2 => hcf ⟨h1, h2⟩)
                      · exact .inl h1
                    have HE : Hid (patW l l none c = ([], 17)) := by
                      have h := HPA.out.err HX.out (by rw [HCK.out]; decide)
                      rw [HCK.out] at h; exact h
                    have t2 := str_dec dt xa
                    have l1 : (dt.toList != xa.toList) = !(decide (dt = xa)) := by rw [← str_dec]; rfl
                    by_cases hb : bk = true
                    · have hne : dt ≠ xa := fun h => hcf ⟨hb, h⟩
                      subst hb
                      rw [decide_eq_false hne] at t2 l1
                      clear hne hcf
                      go_wp2_with fail
                      go_ret2
                      exact ⟨⟨[], 17, .inr ⟨HZ0.out, .inl ⟨by rw [HE.out]; decide, by rw [HE.out]⟩⟩, .inl ⟨by decide, rfl⟩⟩, HBQ.out⟩
                    · have hb' : bk = false := by cases bk <;> first | rfl | exact absurd rfl hb
                      subst hb'
                      clear hcf hb t2 l1
                      go_wp2_with fail
                      go_ret2
                      exact ⟨⟨[], 17, .inr ⟨HZ0.out, .inl ⟨by rw [HE.out]; decide, by rw [HE.out]⟩⟩, .inl ⟨by decide, rfl⟩⟩, HBQ.out⟩
                  case pos =>
                    obtain ⟨rfl, rfl⟩ := hcf
                    have HCK : Hid (ckC l (prevC c (i + 1)) ⟨xp, true, false, dt, xb⟩ = 0) := by
                      show _ = _
                      unfold ckC
                      simp only [HPB.out, HBAD.out, HORD.out, HBK.out, HDT.out]
                      rw [if_neg (by simp), if_neg (by simp), if_neg (by simp), if_neg (by simp)]
                    have HNX := Lib.hid (HPA.out.next HX.out HCK.out)
                    have t2 : (dt.toList == dt.toList) = true := by simp
                    have l1 : (dt.toList != dt.toList) = false := by simp
                    obtain ⟨mx, hmx⟩ : ∃ mx, wotF m xp = mx := ⟨_, rfl⟩
                    have HNX' : Hid (PatAt l c (i + 1 + 1) mx) := by
                      have h := HNX.out
                      unfold appC at h
                      simp only [Bool.false_eq_true, if_false] at h
                      rw [hmx] at h; exact h
                    have HMS2 : Hid (∀ f ∈ mx, f.1.size ≤ 1000000 ∧ f.2.size ≤ 60000) := fun f hf => by
                      rw [← hmx] at hf
                      exact HMS.out f (mem_wotF.1 hf).1
                    have HC := Lib.hid (without9_any A' m.length c' wq.heap.size m xp wq HSQ.out (Nat.le_refl _) (by omega))
                    unfold FlsE at HC
                    rw [hmx] at HC
                    clear hmx HNX
                    go_wp2_with fail
                    refine HC.out.mono ?_
                    rintro e w6 ⟨A6, c6, rfl, hsl6, hn6, hm6, hb6⟩
                    have HCP : Hid (mx.length ≤ c6 ∧ c6 ≤ maxLen) := ⟨hn6, hm6⟩
                    have HS6 := Lib.hid hsl6
                    have HB6 : Hid (Below w.heap.size w w6) := HBQ.out.trans (hb6.mono HBQ.out.size)
                    clear HC hsl6 hb6 hn6 hm6 y0 y1 y2 y3 y4
                    go_wp2_with fail
                    go_roundw
                    case rel => exact ⟨i + 1 + 1, mx, A6, c6, hlt, by go_num, rfl, HNX'.out, HMS2.out, HS6.out, HB6.out, HCP.out⟩
                    case measure => simp [intOf]; omega
            · rw [decide_eq_false hxb] at eb
              have HXB := Lib.hid hxb
              clear hxb
              have HCK : Hid (ckC l (prevC c k) ⟨xp, true, false, xa, xb⟩ = 1) := by
                show _ = _
                unfold ckC
                simp only [HPB.out]
                rw [if_neg (by simp), if_pos]
                show ((!true && !false) || (!true && !decide (xa = eB)) || (!false && !decide (xb = eB))) = true
                rw [decide_eq_false HXB.out]
                rfl
              have HE : Hid (patW l l none c = ([], 1)) := by
                have h := HPA.out.err HX.out (by rw [HCK.out]; decide)
                rw [HCK.out] at h; exact h
              go_wp2_with fail
              go_ret2
              exact ⟨⟨[], 1, .inr ⟨HZ0.out, .inl ⟨by rw [HE.out]; decide, by rw [HE.out]⟩⟩, .inl ⟨by decide, rfl⟩⟩, HB4.out⟩
          | true =>
            have HBAD : Hid (badC ⟨xp, true, true, xa, xb⟩ = false) := by
              show ((!true && !true) || (!true && !decide (xa = eB)) || (!true && !decide (xb = eB))) = false
              rfl
            cases k with
            | zero =>
              have HORD : Hid (ordC (prevC c 0) ⟨xp, true, true, xa, xb⟩ = true) := rfl
              go_wp2_with fail
              go_quiet (fail)
              obtain ⟨wq, hwq⟩ : ∃ u, u = w4.drewN nq := ⟨_, rfl⟩
              rw [← hwq]
              have HBQ : Hid (Below w.heap.size w wq) := by rw [hwq]; exact below_drewN HB4.out _
              have HKQ : Hid (Bk wq wr.heap.size 112 #[.string xp, .bool true, .bool true, .string xa, .string xb]) := by rw [hwq]; exact HK4.out.drewN _
              have HSQ : Hid (Sl wq wq.heap.size 2 A' m.length (flat flC m)) := by rw [hwq]; exact HS4.out.drewN _
              clear hwq y0 y1 y2 y3 y4 HB4 HK4 HS4
              obtain ⟨y0, y1, y2, y3, y4⟩ := HKQ.out.five
              have HC := Lib.hid (find9D_any A1 n1 c1 B l xp wq (H1.out.below HBQ.out hB) hm)
              unfold FdD at HC
              obtain ⟨bk, hbk⟩ : ∃ b, (lookF9 l xp).isSome = b := ⟨_, rfl⟩
              obtain ⟨dt, hdt⟩ : ∃ b, (lookF9 l xp).getD eB = b := ⟨_, rfl⟩
              rw [hbk, hdt] at HC
              have HBK := Lib.hid hbk; have HDT := Lib.hid hdt
              clear hbk hdt
              go_wp2_with fail
              refine HC.out.mono ?_
              rintro e w5 ⟨rfl, rfl⟩
              clear HC
              by_cases hcf : bk = true ∧ dt = xa
              case neg =>
                have HCK : Hid (ckC l (prevC c 0) ⟨xp, true, true, xa, xb⟩ = 17) := by
                  show _ = _
                  unfold ckC
                  simp only [HPB.out, HBAD.out, HORD.out, HBK.out, HDT.out]
                  rw [if_neg (by simp), if_neg (by simp), if_neg (by simp), if_pos]
                  by_cases h1 : bk = true
                  · exact .inr (fun h2 => hcf ⟨h1, h2⟩)
                  · exact .inl h1
                have HE : Hid (patW l l none c = ([], 17)) := by
                  have h := HPA.out.err HX.out (by rw [HCK.out]; decide)
                  rw [HCK.out] at h; exact h
                have t2 := str_dec dt xa
                have l1 : (dt.toList != xa.toList) = !(decide (dt = xa)) := by rw [← str_dec]; rfl
                by_cases hb : bk = true
                · have hne : dt ≠ xa := fun h => hcf ⟨hb, h⟩
                  subst hb
                  rw [decide_eq_false hne] at t2 l1
                  clear hne hcf
                  go_wp2_with fail
                  go_ret2
                  exact ⟨⟨[], 17, .inr ⟨HZ0.out, .inl ⟨by rw [HE.out]; decide, by rw [HE.out]⟩⟩, .inl ⟨by decide, rfl⟩⟩, HBQ.out⟩
                · have hb' : bk = false := by cases bk <;> first | rfl | exact absurd rfl hb
                  subst hb'
                  clear hcf hb t2 l1
                  go_wp2_with fail
                  go_ret2
                  exact ⟨⟨[], 17, .inr ⟨HZ0.out, .inl ⟨by rw [HE.out]; decide, by rw [HE.out]⟩⟩, .inl ⟨by decide, rfl⟩⟩, HBQ.out⟩
              case pos =>
                obtain ⟨rfl, rfl⟩ := hcf
                have HCK : Hid (ckC l (prevC c 0) ⟨xp, true, true, dt, xb⟩ = 0) := by
                  show _ = _
                  unfold ckC
                  simp only [HPB.out, HBAD.out, HORD.out, HBK.out, HDT.out]
                  rw [if_neg (by simp), if_neg (by simp), if_neg (by simp), if_neg (by simp)]
                have HNX := Lib.hid (HPA.out.next HX.out HCK.out)
                have t2 : (dt.toList == dt.toList) = true := by simp
                have l1 : (dt.toList != dt.toList) = false := by simp
                obtain ⟨mx, hmx⟩ : ∃ mx, withF m (xp, xb) = mx := ⟨_, rfl⟩
                have HNX' : Hid (PatAt l c (0 + 1) mx) := by
                  have h := HNX.out
                  unfold appC at h
                  simp only [if_true] at h
                  rw [hmx] at h; exact h
                have HMS2 : Hid (∀ f ∈ mx, f.1.size ≤ 1000000 ∧ f.2.size ≤ 60000) := fun f hf => by
                  rw [← hmx] at hf
                  rcases mem_withF.1 hf with ⟨h1, _⟩ | rfl
                  · exact HMS.out f h1
                  · exact ⟨hxs.1, hxs.2⟩
                have HC := Lib.hid (with9_any A' m.length c' wq.heap.size m (xp, xb) wq HSQ.out (Nat.le_refl _) (by omega) HPA.out.asc)
                unfold FlsE fileV at HC
                rw [hmx] at HC
                clear hmx HNX
                go_wp2_with fail
                refine HC.out.mono ?_
                rintro e w6 ⟨A6, c6, rfl, hsl6, hn6, hm6, hb6⟩
                have HCP : Hid (mx.length ≤ c6 ∧ c6 ≤ maxLen) := ⟨hn6, hm6⟩
                have HS6 := Lib.hid hsl6
                have HB6 : Hid (Below w.heap.size w w6) := HBQ.out.trans (hb6.mono HBQ.out.size)
                clear HC hsl6 hb6 hn6 hm6 y0 y1 y2 y3 y4
                go_wp2_with fail
                go_roundw
                case rel => exact ⟨0 + 1, mx, A6, c6, hlt, by go_num, rfl, HNX'.out, HMS2.out, HS6.out, HB6.out, HCP.out⟩
                case measure => simp [intOf]; omega
            | succ i =>
              obtain ⟨b3, off3, z, hA3, hb3, hz, z0, _, _, _, _⟩ := (H2.out.below HB4.out hB).fc (k := i) (by omega)
              injection hA3 with hA3
              injection hA3 with hA3 hA4
              subst hA3; subst hA4
              have hle := less_str z.path xp
              have HPV : Hid (prevC c (i + 1) = some z.path) := by show _ = _; unfold prevC; rw [if_neg (by omega), Nat.add_sub_cancel, hz]; rfl
              have hj1 : IntKind.i64.wrap (i : Int) = (i : Int) := by rw [IntKind.wrap_i64]; omega
              have hj2 : (i : Int) + 1 < (n : Int) := by omega
              have hj3 : (0 : Int) ≤ (i : Int) + 1 := by omega
              have hj4 : ((i : Int) + 1).toNat = i + 1 := by omega
              have hj5 : (0 : Int) < (i : Int) + 1 := by omega
              have hin : i < n := by omega
              clear hz
              cases hl : less z.path xp with
              | false =>
                rw [hl] at hle
                have HCK : Hid (ckC l (prevC c (i + 1)) ⟨xp, true, true, xa, xb⟩ = 10) := by
                  show _ = _
                  unfold ckC
                  simp only [HPB.out, HBAD.out]
                  rw [if_neg (by simp), if_neg (by simp), if_pos]
                  rw [HPV.out]; exact hl
                have HE : Hid (patW l l none c = ([], 10)) := by
                  have h := HPA.out.err HX.out (by rw [HCK.out]; decide)
                  rw [HCK.out] at h; exact h
                clear hl
                go_wp2_with fail
                go_quiet (fail)
                go_wp2_with fail
                go_ret2
                exact ⟨⟨[], 10, .inr ⟨HZ0.out, .inl ⟨by rw [HE.out]; decide, by rw [HE.out]⟩⟩, .inl ⟨by decide, rfl⟩⟩, below_drewN HB4.out _⟩
              | true =>
                rw [hl] at hle
                have HORD : Hid (ordC (prevC c (i + 1)) ⟨xp, true, true, xa, xb⟩ = true) := by show _ = _; rw [HPV.out]; exact hl
                clear hl
                go_wp2_with fail
                go_quiet (fail)
                clear hle z0 hj1 hj2 hj3 hj4 hj5
                obtain ⟨wq, hwq⟩ : ∃ u, u = w4.drewN nq := ⟨_, rfl⟩
                rw [← hwq]
                have HBQ : Hid (Below w.heap.size w wq) := by rw [hwq]; exact below_drewN HB4.out _
                have HKQ : Hid (Bk wq wr.heap.size 112 #[.string xp, .bool true, .bool true, .string xa, .string xb]) := by rw [hwq]; exact HK4.out.drewN _
                have HSQ : Hid (Sl wq wq.heap.size 2 A' m.length (flat flC m)) := by rw [hwq]; exact HS4.out.drewN _
                clear hwq y0 y1 y2 y3 y4 HB4 HK4 HS4
                obtain ⟨y0, y1, y2, y3, y4⟩ := HKQ.out.five
                have HC := Lib.hid (find9D_any A1 n1 c1 B l xp wq (H1.out.below HBQ.out hB) hm)
                unfold FdD at HC
                obtain ⟨bk, hbk⟩ : ∃ b, (lookF9 l xp).isSome = b := ⟨_, rfl⟩
                obtain ⟨dt, hdt⟩ : ∃ b, (lookF9 l xp).getD eB = b := ⟨_, rfl⟩
                rw [hbk, hdt] at HC
                have HBK := Lib.hid hbk; have HDT := Lib.hid hdt
                clear hbk hdt
                go_wp2_with fail
                refine HC.out.mono ?_
                rintro e w5 ⟨rfl, rfl⟩
                clear HC
                by_cases hcf : bk = true ∧ dt = xa
                case neg =>
                  have HCK : Hid (ckC l (prevC c (i + 1)) ⟨xp, true, true, xa, xb⟩ = 17) := by
                    show _ = _
                    unfold ckC
                    simp only [HPB.out, HBAD.out, HORD.out, HBK.out, HDT.out]
                    rw [if_neg (by simp), if_neg (by simp), if_neg (by simp), if_pos]
                    by_cases h1 : bk = true
                    · exact .inr (fun h2 => hcf ⟨h1, h2⟩)
                    · exact .inl h1
                  have HE : Hid (patW l l none c = ([], 17)) := by
                    have h := HPA.out.err HX.out (by rw [HCK.out]; decide)
                    rw [HCK.out] at h; exact h
                  have t2 := str_dec dt xa
                  have l1 : (dt.toList != xa.toList) = !(decide (dt = xa)) := by rw [← str_dec]; rfl
                  by_cases hb : bk = true
                  · have hne : dt ≠ xa := fun h => hcf ⟨hb, h⟩
                    subst hb
                    rw [decide_eq_false hne] at t2 l1
                    clear hne hcf
                    go_wp2_with fail
                    go_ret2
                    exact ⟨⟨[], 17, .inr ⟨HZ0.out, .inl ⟨by rw [HE.out]; decide, by rw [HE.out]⟩⟩, .inl ⟨by decide, rfl⟩⟩, HBQ.out⟩
                  · have hb' : bk = false := by cases bk <;> first | rfl | exact absurd rfl hb
                    subst hb'
                    clear hcf hb t2 l1
                    go_wp2_with fail
                    go_ret2
                    exact ⟨⟨[], 17, .inr ⟨HZ0.out, .inl ⟨by rw [HE.out]; decide, by rw [HE.out]⟩⟩, .inl ⟨by decide, rfl⟩⟩, HBQ.out⟩
                case pos =>
                  obtain ⟨rfl, rfl⟩ := hcf
                  have HCK : Hid (ckC l (prevC c (i + 1)) ⟨xp, true, true, dt, xb⟩ = 0) := by
                    show _ = _
                    unfold ckC
                    simp only [HPB.out, HBAD.out, HORD.out, HBK.out, HDT.out]
                    rw [if_neg (by simp), if_neg (by simp), if_neg (by simp), if_neg (by simp)]
                  have HNX := Lib.hid (HPA.out.next HX.out HCK.out)
                  have t2 : (dt.toList == dt.toList) = true := by simp
                  have l1 : (dt.toList != dt.toList) = false := by simp
                  obtain ⟨mx, hmx⟩ : ∃ mx, withF m (xp, xb) = mx := ⟨_, rfl⟩
                  have HNX' : Hid (PatAt l c (i + 1 + 1) mx) := by
                    have h := HNX.out
                    unfold appC at h
                    simp only [if_true] at h
                    rw [hmx] at h; exact h
                  have HMS2 : Hid (∀ f ∈ mx, f.1.size ≤ 1000000 ∧ f.2.size ≤ 60000) := fun f hf => by
                    rw [← hmx] at hf
                    rcases mem_withF.1 hf with ⟨h1, _⟩ | rfl
                    · exact HMS.out f h1
                    · exact ⟨hxs.1, hxs.2⟩
                  have HC := Lib.hid (with9_any A' m.length c' wq.heap.size m (xp, xb) wq HSQ.out (Nat.le_refl _) (by omega) HPA.out.asc)
                  unfold FlsE fileV at HC
                  rw [hmx] at HC
                  clear hmx HNX
                  go_wp2_with fail
                  refine HC.out.mono ?_
                  rintro e w6 ⟨A6, c6, rfl, hsl6, hn6, hm6, hb6⟩
                  have HCP : Hid (mx.length ≤ c6 ∧ c6 ≤ maxLen) := ⟨hn6, hm6⟩
                  have HS6 := Lib.hid hsl6
                  have HB6 : Hid (Below w.heap.size w w6) := HBQ.out.trans (hb6.mono HBQ.out.size)
                  clear HC hsl6 hb6 hn6 hm6 y0 y1 y2 y3 y4
                  go_wp2_with fail
                  go_roundw
                  case rel => exact ⟨i + 1 + 1, mx, A6, c6, hlt, by go_num, rfl, HNX'.out, HMS2.out, HS6.out, HB6.out, HCP.out⟩
                  case measure => simp [intOf]; omega
    · have hlz : ¬ (k : Int) < (n : Int) := by omega
      have HD : Hid (patW l l none c = (m, 0)) := HPA.out.done (by rw [HL2.out]; omega)
      have HC := Lib.hid (check9_any A' m.length c' wr.heap.size m wr HSR.out (Nat.le_refl _) (by omega) HMS.out)
      go_wp2_with fail
      refine HC.out.mono ?_
      rintro e w5 ⟨z, rfl, hz, hb⟩
      have HZZ := Lib.hid hz
      have HB5 : Hid (Below w.heap.size w w5) := HBE.out.trans (hb.mono zr)
      have HS5 := Lib.hid (sl_on9 HSR.out hb)
      clear hz hb HC
      by_cases h0 : z = 0
      · subst h0
        go_wp2_with fail
        go_ret2
        exact ⟨⟨m, 0, .inr ⟨HZ0.out, .inr ⟨by rw [HD.out], .inr ⟨by rw [HD.out]; exact HZZ.out, rfl, by rw [HD.out]⟩⟩⟩, .inr ⟨rfl, A', c', rfl, HS5.out, hCap.out.1, hCap.out.2⟩⟩, HB5.out⟩
      · have t1 : (z != 0) = true := by rw [bne_iff_ne]; exact h0
        have H0' := Lib.hid h0
        clear h0
        go_wp2_with fail
        go_ret2
        exact ⟨⟨[], z, .inr ⟨HZ0.out, .inr ⟨by rw [HD.out], .inl ⟨z, by rw [HD.out]; exact HZZ.out, H0'.out, rfl⟩⟩⟩, .inl ⟨H0'.out, rfl⟩⟩, HB5.out⟩
end Go.Proofs.YtmdhlkkekidknaaGreatDoor

namespace Go.Proofs.YtmdhlkkekidknaaGreatDoor
open Go.RowKit

def sA : ByteArray := ⟨#[97]⟩
def sAX : ByteArray := ⟨#[97, 47, 120]⟩
def sX : ByteArray := ⟨#[120]⟩
def sB : ByteArray := ⟨#[98]⟩
def s1 : ByteArray := ⟨#[49]⟩
def s2 : ByteArray := ⟨#[50]⟩
def s3 : ByteArray := ⟨#[51]⟩
def awL : List Fl := [(sAX, s1), (sB, s2)]
theorem encT_s (s : ByteArray) (h : s.size < 128) : encT (toL s) = UInt8.ofNat s.size :: toL s := by
  unfold encT
  have : (toL s).length = s.size := by simp [toL]
  rw [this, encN_small h]; rfl
theorem enc_blob (s : ByteArray) (h : s.size < 128) : encO (blobO s) = 1 :: UInt8.ofNat s.size :: toL s := by
  show encN 1 ++ encT (toL s) = _
  rw [encN_small (by omega), encT_s s h]; rfl
theorem encE_s (e : Ent) (h : e.nm.size < 128) : encE e = UInt8.ofNat e.nm.size :: toL e.nm ++ (if e.dir = true then 1 else 0) :: digB e.dg := by
  unfold encE
  rw [encT_s _ h]
  cases e.dir <;> rw [encN_small (by simp)] <;> simp
theorem enc_tree (es : List Ent) (h : es.length < 128) : encO (treeO es) = 2 :: UInt8.ofNat es.length :: es.flatMap encE := by
  show encN 2 ++ (encN es.length ++ es.flatMap encE) = _
  rw [encN_small (n := 2) (by omega), encN_small h]; rfl
def xB1 : Itm := (ofB [1, 1, 49], ofL [1, 1, 49])
def xB2 : Itm := (ofB [1, 1, 50], ofL [1, 1, 50])
def bT : Bytes := [2, 1, 1, 120, 0] ++ digB (ofB [1, 1, 49])
def xT : Itm := (ofB bT, ofL bT)
def bR : Bytes := [2, 2, 1, 97, 1] ++ digB (ofB bT) ++ [1, 98, 0] ++ digB (ofB [1, 1, 50])
def xR : Itm := (ofB bR, ofL bR)
def q1 : List Itm := (insP [] xB1).getD []
def q2 : List Itm := (insP q1 xT).getD []
def q3 : List Itm := (insP q2 xB2).getD []
def q4 : List Itm := (insP q3 xR).getD []
theorem some_of {α : Type} {o : Option (List α)} (h : o.isSome = true) : o = some (o.getD []) := by cases o with | none => cases h | some _ => rfl
theorem i1 : insP [] xB1 = some q1 := some_of (by decide +kernel)
theorem i2 : insP q1 xT = some q2 := some_of (by decide +kernel)
theorem i3 : insP q2 xB2 = some q3 := some_of (by decide +kernel)
theorem i4 : insP q3 xR = some q4 := some_of (by decide +kernel)
theorem q4_len : q4.length = 4 := by decide +kernel
theorem put1 : putP [] (blobO s1) = some q1 := by unfold putP; rw [enc_blob s1 (by decide)]; exact i1
theorem put3 : putP q2 (blobO s2) = some q3 := by unfold putP; rw [enc_blob s2 (by decide)]; exact i3
theorem dg1_eq : dgO (blobO s1) = ofB [1, 1, 49] := by unfold dgO; rw [enc_blob s1 (by decide)]; rfl
theorem dg2_eq : dgO (blobO s2) = ofB [1, 1, 50] := by unfold dgO; rw [enc_blob s2 (by decide)]; rfl
theorem encT1 : encO (treeO [⟨sX, false, ofB [1, 1, 49]⟩]) = bT := by
  rw [enc_tree _ (by decide), List.flatMap_cons, List.flatMap_nil, encE_s _ (by decide)]; rfl
theorem encR1 : encO (treeO [⟨sA, true, ofB bT⟩, ⟨sB, false, ofB [1, 1, 50]⟩]) = bR := by
  rw [enc_tree _ (by decide), List.flatMap_cons, List.flatMap_cons, List.flatMap_nil, encE_s _ (by decide), encE_s _ (by decide)]
  rfl
theorem nm1 : nmsP awL = [sA, sB] := by decide +kernel
theorem nm2 : nmsP [(sX, s1)] = [sX] := by decide +kernel
theorem in1 : inD awL sA = [(sX, s1)] := by decide +kernel
theorem sto_sub (k : Nat) : sto (k + 1) [] [(sX, s1)] = some (q2, ofB bT) := by
  rw [sto, nm2, stoE_file (s := s1) (by decide +kernel) put1, stoE, List.nil_append, dg1_eq]
  simp only
  have : putP q1 (treeO [⟨sX, false, ofB [1, 1, 49]⟩]) = some q2 := by unfold putP; rw [encT1]; exact i2
  rw [this]
  simp only [dgO, encT1]
theorem sto_aw : sto 101 [] awL = some (q4, ofB bR) := by
  rw [sto, nm1, stoE_dir (by decide +kernel) (by rw [in1]; exact sto_sub 99), stoE_file (s := s2) (by decide +kernel) put3, stoE, List.nil_append, dg2_eq]
  simp only [List.cons_append, List.nil_append]
  have : putP q3 (treeO [⟨sA, true, ofB bT⟩, ⟨sB, false, ofB [1, 1, 50]⟩]) = some q4 := by unfold putP; rw [encR1]; exact i4
  rw [this]
  simp only [dgO, encR1]
end Go.Proofs.YtmdhlkkekidknaaGreatDoor

namespace Go.Proofs.YtmdhlkkekidknaaGreatDoor
open Go.RowKit Go.Shelf

theorem first_hit (q : Nat → Bool) : ∀ n : Nat, (∀ j, j < n → q j = false) ∨ ∃ k, k < n ∧ q k = true ∧ ∀ j, j < k → q j = false
  | 0 => .inl fun j hj => absurd hj (Nat.not_lt_zero _)
  | n + 1 => by
    rcases first_hit q n with h | ⟨k, h1, h2, h3⟩
    · cases hq : q n with
      | true => exact .inr ⟨n, Nat.lt_succ_self n, hq, h⟩
      | false =>
        refine .inl fun j hj => ?_
        rcases Nat.lt_succ_iff_lt_or_eq.1 hj with h' | rfl
        · exact h j h'
        · exact hq
    · exact .inr ⟨k, by omega, h2, h3⟩
instance : Inhabited Ent := ⟨⟨⟨#[]⟩, false, (0, 0)⟩⟩
def IxE (es : List Ent) (s : ByteArray) (w : World) (e : Ending) (w' : World) : Prop :=
  ((∃ (j : Nat) (x : Ent), j < es.length ∧ es[j]? = some x ∧ entN es s = some x ∧ e = .returned (.int .i64 (j : Int))) ∨ (entN es s = none ∧ e = .returned (.int .i64 (-1)))) ∧ Below w.heap.size w w'
set_option maxRecDepth 100000 in
set_option maxHeartbeats 1000000 in
theorem get1_any (bx : Nat) (s : ByteArray) (x : Ent) (w : World) (hk : Bk w bx 9 #[.string s]) :
    Calls Tryz.prog 71 #[.agg (enC x).toArray, .pointer (some ⟨bx, 0, none⟩)] w fun e w' => e = .returned (.bool (decide (x.nm = s))) ∧ Below w.heap.size w w' := by
  obtain ⟨nm, dir, d1, d2⟩ := x
  have h0 : w.cell? ⟨bx, 0, none⟩ = some (.string s) := by rw [hk.cell]; rfl
  have h1 := World.cell?_alloc_old w (.cells #[.string nm, .bool dir, .int .u64 d1, .int .u64 d2] 102) ⟨bx, 0, none⟩ (Nat.ne_of_lt hk.lt)
  rw [h0] at h1
  simp only [enC]
  clear hk
  go_enter Tryz.func71, Tryz.ntmps71
  go_wp2_with fail
  go_ret
  refine ⟨?_, (Below.refl _ w).alloc (Nat.le_refl _) _⟩
  rw [← str_dec]; rfl
set_option maxRecDepth 100000 in
set_option maxHeartbeats 1000000 in
theorem ixe_any (A : Option Addr) (n c bx : Nat) (es : List Ent) (s : ByteArray) (w : World) (h0 : Sl w w.heap.size 4 A n (flat enC es)) (hk : Bk w bx 9 #[.string s]) (hn : n ≤ 9223372036854775807) :
    Calls Tryz.prog 70 #[.slice A n c, .func (.func 71) #[] #[.pointer (some ⟨bx, 0, none⟩)]] w (IxE es s w) := by
  have hl := h0.len enC_len (by omega)
  by_cases hz : n = 0
  · subst hz
    have hes : es = [] := List.eq_nil_of_length_eq_zero hl
    subst hes
    clear h0 hk
    go_enter Tryz.func70, Tryz.ntmps70
    go_wp2_with fail
    go_loopg [5, 8] 0 (fun gg _ s8 wr => s8 = .int .i64 0 ∧ wr = w)
    case atStart => exact ⟨rfl, rfl⟩
    case round =>
      obtain ⟨rfl, rfl⟩ := hrel
      go_wp2_with fail
      go_ret
      exact ⟨.inr ⟨rfl, rfl⟩, Below.refl _ _⟩
  · obtain ⟨b, off, rfl, hb, hc⟩ := h0.2 (by omega)
    have hp : PredBelow Tryz.prog 71 #[.pointer (some ⟨bx, 0, none⟩)] (fun x => .agg (enC x).toArray) (fun x => decide (x.nm = s)) w := fun W x hW =>
      (get1_any bx s x W (hk.below hW hk.lt)).mono fun e w' ⟨h1, h2⟩ => ⟨h1, hW.trans (h2.mono hW.size)⟩
    have h := AnyQ.slices_IndexFunc Tryz.idxEnt 4 (Tryz.isAgg102) (Tryz.sizeOf102) enC enC_len (fun x => decide (x.nm = s)) 71 #[.pointer (some ⟨bx, 0, none⟩)] (enters_of Tryz.func71 rfl rfl) b off n c es w hp (by omega) hn hb (fun j hj i v hi => by
      have := hc (j * 4 + i) v ?_
      · rw [show off + j * 4 + i = off + (j * 4 + i) by omega]; exact this
      · rw [getElem!_pos es j hj] at hi
        have hi4 : i < 4 := (List.getElem?_eq_some_iff.1 hi).1
        rw [flat_get enC_len es j i es[j] (List.getElem?_eq_getElem hj) hi4]
        exact hi)
    refine h.mono fun e w' ⟨he, hw⟩ => ⟨?_, hw⟩
    rcases first_hit (fun j => decide ((es[j]!).nm = s)) n with hno | ⟨k, h1, h2, h3⟩
    · rw [Lib.idxBy_miss (fun _ y => decide (y.nm = s)) es n default hno] at he
      refine .inr ⟨entN_no fun i x hi => ?_, he⟩
      obtain ⟨hi1, hi2⟩ := List.getElem?_eq_some_iff.1 hi
      have := hno i (by omega)
      simp only [decide_eq_false_iff_not] at this
      rw [getElem!_pos es i hi1, hi2] at this
      exact this
    · rw [Lib.idxBy_hit (fun _ y => decide (y.nm = s)) es n k default h1 (by omega) h2 h3] at he
      refine .inl ⟨k, es[k]'(by omega), by omega, List.getElem?_eq_getElem _, ?_, he⟩
      refine entN_at (j := k) (fun i x hi hx => ?_) (List.getElem?_eq_getElem (by omega)) ?_
      · obtain ⟨hi1, hi2⟩ := List.getElem?_eq_some_iff.1 hx
        have := h3 i hi
        simp only [decide_eq_false_iff_not] at this
        rw [getElem!_pos es i hi1, hi2] at this
        exact this
      · simp only [decide_eq_true_eq] at h2
        rw [getElem!_pos es k (by omega)] at h2
        exact h2
end Go.Proofs.YtmdhlkkekidknaaGreatDoor

namespace Go.Proofs.YtmdhlkkekidknaaGreatDoor
open Go.RowKit Go.Shelf

theorem index_by (l : List UInt8) (c : UInt8) : Lib.index l [c] = Lib.indexByte l c := by
  induction l with
  | nil => rfl
  | cons b l ih =>
    rw [Lib.index, Lib.indexByte, ih]
    by_cases h : b = c
    · subst h; simp [List.isPrefixOf]
    · have h1 : (c == b) = false := by simpa using fun e => h e.symm
      have h2 : (b == c) = false := by simpa using h
      simp [List.isPrefixOf, h1, h2]
theorem indexByte_slash (l : List UInt8) : Lib.indexByte l 47 = if slashL l < l.length then (slashL l : Int) else -1 := by
  induction l with
  | nil => rfl
  | cons b l ih =>
    rw [Lib.indexByte, ih, slashL]
    by_cases h : b = 47
    · subst h; simp
    · have h2 : (b == 47) = false := by simpa using h
      rw [h2, if_neg h]
      by_cases h3 : slashL l < l.length
      · have h4 : ¬ ((slashL l : Int) = -1) := by omega
        simp [h3, h4]
      · simp [h3]
theorem splitK_slash : ∀ (k : Nat) (l : List UInt8), l.count 47 = k → Lib.splitK [47] 0 k l = splitS l := by
  intro k
  induction k with
  | zero =>
    intro l hl
    rw [splitS_last l (fun c hc e => by subst e; exact absurd hc (List.count_eq_zero.1 hl))]
    rfl
  | succ k ih =>
    intro l hl
    have hlt : slashL l < l.length := by
      rcases Nat.lt_or_ge (slashL l) l.length with h | h
      · exact h
      · have := slashL_pre l
        rw [List.take_of_length_le h] at this
        have h0 : l.count 47 = 0 := List.count_eq_zero.2 (fun hc => this 47 hc rfl)
        omega
    have hd := slashL_dec l hlt
    have hc : (l.drop (slashL l + 1)).count 47 = k := by
      have h1 : l.count 47 = (l.take (slashL l) ++ 47 :: l.drop (slashL l + 1)).count 47 := by rw [← hd]
      rw [List.count_append, List.count_eq_zero.2 (fun hc => slashL_pre l 47 hc rfl), List.count_cons_self] at h1
      omega
    rw [Lib.splitK, index_by, indexByte_slash, if_pos hlt, splitS_slash l, if_pos hlt]
    have h4 : ((slashL l : Int) == -1) = false := by
      have : ¬ ((slashL l : Int) = -1) := by omega
      exact beq_eq_false_iff_ne.2 this
    rw [h4]
    simp only [Bool.false_eq_true, if_false, Int.toNat_natCast, Nat.add_zero, List.length_cons, List.length_nil, Nat.zero_add]
    rw [ih _ hc]
theorem map_bl_inj : ∀ {a b : List ByteArray}, a.map (·.data.toList) = b.map (·.data.toList) → a = b
  | [], [], _ => rfl
  | [], _ :: _, h => by simp at h
  | _ :: _, [], h => by simp at h
  | x :: a, y :: b, h => by
    simp only [List.map_cons, List.cons.injEq] at h
    have e : x = y := by rw [← ub_bl x, ← ub_bl y]; exact congrArg ub h.1
    rw [e, map_bl_inj h.2]
theorem split_pieces (s : ByteArray) : Lib.splitB ⟨#[47]⟩ 0 (Lib.countB s ⟨#[47]⟩) s = (splitS (bl s)).map ub := by
  apply map_bl_inj
  rw [Lib.splitB_data, List.map_map]
  have hc : Lib.countB s ⟨#[47]⟩ = (bl s).count 47 := by
    show Lib.count s.data.toList [47] = _
    rw [Lib.count_one]; rfl
  have e : ((fun x : ByteArray => x.data.toList) ∘ ub) = id := by funext l; exact bl_ub l
  rw [e, List.map_id, hc]
  exact splitK_slash _ _ rfl
set_option maxRecDepth 100000 in
set_option maxHeartbeats 1000000 in
theorem split_any (s : ByteArray) (w : World) (hs : s.size < 4294967281) :
    Calls Tryz.prog 68 #[.string s, .string ⟨#[47]⟩] w fun e w' => ∃ A, e = .returned (.slice A (splitS (bl s)).length (splitS (bl s)).length) ∧ Sl w' w'.heap.size 1 A (splitS (bl s)).length (((splitS (bl s)).map ub).map Value.string) ∧ Below w.heap.size w w' := by
  have hle := Lib.countB_le ⟨#[47]⟩ (by decide) s.size s (Nat.le_refl _)
  have hlen := Lib.splitB_all ⟨#[47]⟩ (by decide) 0 _ s rfl
  have c := Any.strings_genSplit_core Tryz.laysGsp (by kernel_rfl) s ⟨#[47]⟩ 0 (-1) (Lib.countB s ⟨#[47]⟩ + 1) w hs (by decide) (by decide)
    (fun x c hx => (Tryz.strings_Index_one x 47 _).mono fun e w' ⟨he, hw⟩ => ⟨by rw [he, ← index_by], hw⟩)
    ((Tryz.strings_Count_one s 47 w).mono fun e w' ⟨he, hw⟩ => ⟨by
      rw [he]
      show _ = Ending.returned (Value.int .i64 ((Lib.count s.data.toList [47] : Nat) : Int))
      rw [Lib.count_one]; rfl, hw⟩)
    (by decide) (by decide) (by rw [if_pos (by decide)]; omega)
  rw [Nat.add_sub_cancel, hlen] at c
  have e2 : Lib.cellsOf (Lib.splitB ⟨#[47]⟩ 0 (Lib.countB s ⟨#[47]⟩) s) (Lib.countB s ⟨#[47]⟩ + 1) = (((splitS (bl s)).map ub).map Value.string).toArray := by rw [← split_pieces, ← hlen]; exact Lib.cellsOf_full _
  have e3 : Lib.countB s ⟨#[47]⟩ + 1 = (splitS (bl s)).length := by rw [← hlen, split_pieces, List.length_map]
  rw [e2, e3] at c
  have HC : Hid (Calls Tryz.prog 117 #[.string s, .string ⟨#[47]⟩, .int .i64 0, .int .i64 (-1)] w fun e w' => ∃ A, e = .returned (.slice A (splitS (bl s)).length (splitS (bl s)).length) ∧ Sl w' w'.heap.size 1 A (splitS (bl s)).length (((splitS (bl s)).map ub).map Value.string) ∧ Below w.heap.size w w') :=
    c.mono fun e w' ⟨he, hw⟩ => by
      subst hw
      refine ⟨_, he, ?_, (Below.refl _ w).alloc (Nat.le_refl _) _⟩
      refine ⟨by simp, fun _ => ⟨w.heap.size, 0, rfl, by simp, fun j u hu => ?_⟩⟩
      rw [Nat.zero_add, World.cell?_alloc_new]
      simpa using hu
  clear c e2 e3 hle hlen
  go_enter Tryz.func68, Tryz.ntmps68
  go_wp2_with fail
  refine HC.out.mono ?_
  rintro e w' ⟨A, rfl, hsl, hb⟩
  have HSL := Lib.hid hsl; have HB := Lib.hid hb
  clear hsl hb HC
  go_wp2_with fail
  go_ret
  exact ⟨A, rfl, HSL.out, HB.out⟩
end Go.Proofs.YtmdhlkkekidknaaGreatDoor

namespace Go.Proofs.YtmdhlkkekidknaaGreatDoor
open Go.RowKit

theorem splitS_no : ∀ {l p : List UInt8}, p ∈ splitS l → ∀ c ∈ p, c ≠ 47
  | [], p, h, c, hc => by simp [splitS] at h; subst h; simp at hc
  | d :: r, p, h, c, hc => by
    unfold splitS at h
    split at h
    · rcases List.mem_cons.1 h with rfl | h
      · simp at hc
      · exact splitS_no h c hc
    · rename_i hd
      have ih : ∀ q ∈ splitS r, ∀ c ∈ q, c ≠ 47 := fun q hq => splitS_no hq
      split at h
      · simp at h; subst h; simp at hc; subst hc; exact hd
      · rename_i a t e
        rw [e] at ih
        rcases List.mem_cons.1 h with rfl | h
        · rcases List.mem_cons.1 hc with rfl | hc
          · exact hd
          · exact ih a (List.mem_cons_self ..) c hc
        · exact ih p (List.mem_cons_of_mem _ h) c hc
theorem splitS_size : ∀ l : List UInt8, (splitS l).length ≤ l.length + 1
  | [] => Nat.le_refl _
  | d :: r => by
    have ih := splitS_size r
    unfold splitS
    split
    · simp; omega
    · split
      · simp
      · rename_i a t e
        rw [e] at ih
        simp at ih ⊢; omega
theorem sl_on' {w w' : World} {n size : Nat} {A : Option Addr} {xs : List Value} (h : Sl w w.heap.size size A n xs) (hb : Below w.heap.size w w') : Sl w' w'.heap.size size A n xs := (h.below hb (Nat.le_refl _)).more hb.size
noncomputable def gtR (p : List Itm) (d : Dig) (s : ByteArray) : ByteArray × Int := if pathB s = true then getF p (splitS (bl s)).length d s else (⟨#[]⟩, 6)
def TgE (p : List Itm) (d : Dig) (s : ByteArray) (w : World) (e : Ending) (w' : World) : Prop := e = .returned (.tuple #[.string (gtR p d s).1, .int .i64 (gtR p d s).2]) ∧ Below w.heap.size w w'
def GtI (p : List Itm) (d : Dig) (ns : List (List UInt8)) (R : ByteArray × Int) (j : Nat) : Prop := (j < ns.length ∧ getN p (ns.length - j) d (ns.drop j) = R) ∨ (j = ns.length ∧ datP p d = R)
section
variable {p : List Itm} {d : Dig} {ns : List (List UInt8)} {R : ByteArray × Int} {j : Nat}
theorem GtI.start {s : ByteArray} : GtI p d (splitS (bl s)) (getF p (splitS (bl s)).length d s) 0 := by
  refine .inl ⟨List.length_pos_iff.2 (splitS_ne _), ?_⟩
  unfold getN
  rw [List.drop_zero, Nat.sub_zero, jn_split _ _ (Nat.le_refl _), ub_bl]
theorem GtI.lt (h : GtI p d ns R j) (hj : j < ns.length) : getN p (ns.length - (j + 1) + 1) d (ns.drop j) = R := by
  rcases h with ⟨_, h⟩ | ⟨h, _⟩
  · rw [show ns.length - (j + 1) + 1 = ns.length - j by omega]; exact h
  · omega
theorem GtI.cut (hj : j < ns.length) (hns : ∀ n ∈ ns, ∀ c ∈ n, c ≠ 47) : fsN (ub (jnN (ns.drop j))) = ub (ns[j]'hj) ∧ deN (ub (jnN (ns.drop j))) = decide (j + 1 < ns.length) ∧ (j + 1 < ns.length → rsN (ub (jnN (ns.drop j))) = ub (jnN (ns.drop (j + 1)))) := by
  have hd : ns.drop j = ns[j] :: ns.drop (j + 1) := List.drop_eq_getElem_cons hj
  have hn := hns ns[j] (List.getElem_mem hj)
  by_cases h1 : j + 1 < ns.length
  · have hd1 : ns.drop (j + 1) = ns[j + 1] :: ns.drop (j + 2) := List.drop_eq_getElem_cons h1
    rw [hd, hd1]
    obtain ⟨a, b, c⟩ := cut_jn (n := ns[j]) (m := ns[j + 1]) (r := ns.drop (j + 2)) hn
    exact ⟨a, by rw [c]; simp [h1], fun _ => b⟩
  · have hd1 : ns.drop (j + 1) = [] := List.drop_of_length_le (by omega)
    rw [hd, hd1]
    obtain ⟨a, b⟩ := cut_jn1 hn
    exact ⟨a, by rw [b]; simp [h1], fun h => absurd h h1⟩
theorem GtI.no (h : GtI p d ns R j) (hj : j < ns.length) (hg : getP p d = none) : R = (⟨#[]⟩, 8) := by
  rw [← h.lt hj]; exact getF_none hg
theorem GtI.kind (h : GtI p d ns R j) (hj : j < ns.length) {o : Ob} (hg : getP p d = some o) (hk : o.kind ≠ 2) : R = (⟨#[]⟩, 9) := by
  rw [← h.lt hj]; exact getF_kind hg hk
theorem GtI.ent (h : GtI p d ns R j) (hj : j < ns.length) (hns : ∀ n ∈ ns, ∀ c ∈ n, c ≠ 47) {o : Ob} (hg : getP p d = some o) (hk : o.kind = 2) (he : entN o.ents (ub (ns[j]'hj)) = none) : R = (⟨#[]⟩, 8) := by
  rw [← h.lt hj]; exact getF_ent hg hk (by rw [(GtI.cut hj hns).1]; exact he)
theorem GtI.dir (h : GtI p d ns R j) (hj : j < ns.length) (hns : ∀ n ∈ ns, ∀ c ∈ n, c ≠ 47) {o : Ob} (hg : getP p d = some o) (hk : o.kind = 2) {x : Ent} (he : entN o.ents (ub (ns[j]'hj)) = some x) (hd : x.dir ≠ decide (j + 1 < ns.length)) : R = (⟨#[]⟩, 9) := by
  rw [← h.lt hj]; exact getF_dir hg hk (by rw [(GtI.cut hj hns).1]; exact he) (by rw [(GtI.cut hj hns).2.1]; exact hd)
theorem GtI.next (h : GtI p d ns R j) (hj : j < ns.length) (hns : ∀ n ∈ ns, ∀ c ∈ n, c ≠ 47) {o : Ob} (hg : getP p d = some o) (hk : o.kind = 2) {x : Ent} (he : entN o.ents (ub (ns[j]'hj)) = some x) (hd : x.dir = decide (j + 1 < ns.length)) : GtI p x.dg ns R (j + 1) := by
  have h0 := h.lt hj
  obtain ⟨c1, c2, c3⟩ := GtI.cut hj hns
  by_cases h1 : j + 1 < ns.length
  · refine .inl ⟨h1, ?_⟩
    rw [← h0]
    unfold getN
    rw [getF_sub hg hk (by rw [c1]; exact he) (by rw [hd]; simp [h1]) (by rw [c2]; simp [h1]), c3 h1]
  · refine .inr ⟨by omega, ?_⟩
    rw [← h0]
    unfold getN
    rw [getF_file hg hk (by rw [c1]; exact he) (by rw [hd]; simp [h1]) (by rw [c2]; simp [h1])]
theorem GtI.done (h : GtI p d ns R j) (hj : ¬ j < ns.length) : datP p d = R := by
  rcases h with ⟨h, _⟩ | ⟨_, h⟩
  · exact absurd h hj
  · exact h
end
set_option maxRecDepth 100000 in
set_option maxHeartbeats 8000000 in
theorem tget_any (A : Option Addr) (np cp B : Nat) (p : List Itm) (d : Dig) (path : ByteArray) (w : World) (h0 : Sl w B 3 A np (flat itC p)) (hB : B ≤ w.heap.size) (hn : np ≤ 1000000) (hp : PlOk p) (hps : path.size ≤ 1000000) :
    Calls Tryz.prog 29 #[.slice A np cp, digV d, .string path] w (TgE p d path w) := by
  have HP := Lib.hid hp; have H0 := Lib.hid h0
  obtain ⟨R, hR⟩ : ∃ R, gtR p d path = R := ⟨_, rfl⟩
  unfold TgE
  rw [hR]
  have HR := Lib.hid hR
  obtain ⟨d1, d2⟩ := d
  obtain ⟨W, hW⟩ : ∃ W, w.alloc (.cells #[.int .u64 d1, .int .u64 d2] 30) = W := ⟨_, rfl⟩
  have HB0 : Hid (Below w.heap.size w W) := by rw [← hW]; exact (Below.refl _ w).alloc (Nat.le_refl _) _
  have HK : Hid (Bk W w.heap.size 30 #[.int .u64 d1, .int .u64 d2]) := by rw [← hW]; exact Bk.new w _ _
  have zW : w.heap.size < W.heap.size := HK.out.lt
  have HPI := Lib.hid (isPath_any path W (by unfold maxLen; omega))
  obtain ⟨pb, hpb⟩ : ∃ pb, pathB path = pb := ⟨_, rfl⟩
  rw [hpb] at HPI
  have HPB := Lib.hid hpb
  have HW := Lib.hid hW
  simp only [digV]
  clear hp h0 hR hW hpb
  go_enter Tryz.func29, Tryz.ntmps29
  go_wp2_with fail
  rw [HW.out]
  refine HPI.out.mono ?_
  rintro e w1 ⟨rfl, hb⟩
  have HB1 : Hid (Below w.heap.size w w1) := HB0.out.trans (hb.mono HB0.out.size)
  have HK1 := Lib.hid (HK.out.below hb zW)
  have z1 : w.heap.size < w1.heap.size := HK1.out.lt
  clear hb HPI HK HB0
  cases pb with
  | false =>
    have HF : Hid (R = (⟨#[]⟩, 6)) := by show _ = _; rw [← HR.out]; unfold gtR; rw [HPB.out]; rfl
    go_wp2_with fail
    go_ret2
    exact ⟨by rw [HF.out]; rfl, HB1.out⟩
  | true =>
    have HF : Hid (getF p (splitS (bl path)).length (d1, d2) path = R) := by show _ = _; rw [← HR.out]; unfold gtR; rw [HPB.out]; rfl
    obtain ⟨x0, x1, _, _⟩ := HK1.out.two
    obtain ⟨W2, hW2⟩ : ∃ W2, w1.alloc (.cells #[.int .u64 d1, .int .u64 d2] 30) = W2 := ⟨_, rfl⟩
    have HB2 : Hid (Below w1.heap.size w1 W2) := by rw [← hW2]; exact (Below.refl _ w1).alloc (Nat.le_refl _) _
    have HK2 : Hid (Bk W2 w1.heap.size 30 #[.int .u64 d1, .int .u64 d2]) := by rw [← hW2]; exact Bk.new w1 _ _
    have HS := Lib.hid (split_any path W2 (by omega))
    have hps' : path.size ≤ 100 := path_len HPB.out
    have hns : (splitS (bl path)).length ≤ 101 := by
      have := splitS_size (bl path)
      have : (bl path).length = path.size := by simp [bl]
      omega
    have HNO : Hid (∀ n ∈ splitS (bl path), ∀ c ∈ n, c ≠ 47) := fun n hn => splitS_no hn
    have HI0 : Hid (GtI p (d1, d2) (splitS (bl path)) R 0) := by
      have := GtI.start (p := p) (d := (d1, d2)) (s := path)
      rw [HF.out] at this; exact this
    have HNE := Lib.hid (splitS_ne (bl path))
    obtain ⟨ns, hns'⟩ : ∃ ns, splitS (bl path) = ns := ⟨_, rfl⟩
    rw [hns'] at HS hns HNO HI0 HNE
    obtain ⟨m, hm⟩ : ∃ m, ns.length = m := ⟨_, rfl⟩
    have HM := Lib.hid hm
    rw [hm] at HS hns
    have HW2 := Lib.hid hW2
    clear hns' HF HR hW2 hm
    go_wp2_with fail
    rw [HW2.out]
    refine HS.out.mono ?_
    rintro e w3 ⟨A3, rfl, hsl, hb⟩
    have HSL : Hid (Sl w3 w3.heap.size 1 A3 m (strs (ns.map ub))) := hsl
    have HB3 : Hid (Below w.heap.size w w3) := HB1.out.trans ((HB2.out.trans (hb.mono HB2.out.size)).mono HB1.out.size)
    have HK3 := Lib.hid (HK2.out.below hb HK2.out.lt)
    have hm63 : m ≤ 9223372036854775807 := by omega
    clear hsl hb HS HK1 HK2 HB1 HB2 x0 x1
    go_wp2_with fail
    go_loopw [24] (fun i wr => ∃ (j : Nat) (e1 e2 : Int), i = .int .i64 (j : Int) ∧ j ≤ m ∧ Hid (GtI p (e1, e2) ns R j) ∧ Hid (Bk wr w1.heap.size 30 #[.int .u64 e1, .int .u64 e2]) ∧ Hid (Below w.heap.size w wr) ∧ Hid (Sl wr wr.heap.size 1 A3 m (strs (ns.map ub)))) (fun i _ => m - (intOf i).toNat)
    case atStart => exact ⟨0, d1, d2, rfl, Nat.zero_le _, HI0.out, HK3.out, HB3.out, HSL.out⟩
    case round =>
      obtain ⟨j, e1, e2, rfl, hjm, hI, hKj, hBj, hSj⟩ := hrel
      obtain ⟨x0, x1, _, _⟩ := hKj.out.two
      have f0 := hKj.out.free 0; have f1 := hKj.out.free 1
      by_cases hlt : j < m
      · have hltz : (j : Int) < (m : Int) := by omega
        have hjn : j < ns.length := by rw [HM.out]; exact hlt
        obtain ⟨b, off, x, rfl, hb, hx, hc⟩ := hSj.out.str_at hlt
        have HX : Hid (x = ub ns[j]) := by
          rw [List.getElem?_map, List.getElem?_eq_getElem hjn] at hx
          injection hx with hx; exact hx.symm
        obtain ⟨W4, hW4⟩ : ∃ W4, wr.alloc (.cells #[.string x] 9) = W4 := ⟨_, rfl⟩
        have HB4 : Hid (Below wr.heap.size wr W4) := by rw [← hW4]; exact (Below.refl _ wr).alloc (Nat.le_refl _) _
        have HK4 : Hid (Bk W4 wr.heap.size 9 #[.string x]) := by rw [← hW4]; exact Bk.new wr _ _
        have HBW : Hid (Below w.heap.size w W4) := hBj.out.trans (HB4.out.mono hBj.out.size)
        have zw := hBj.out.size
        have z4 : wr.heap.size < W4.heap.size := HK4.out.lt
        have HG := Lib.hid (pget_any A np cp B p (e1, e2) W4 (H0.out.below HBW.out hB) (Nat.le_trans hB HBW.out.size) hn HP.out)
        unfold GeE at HG
        simp only [digV] at HG
        have HW4 := Lib.hid hW4
        obtain ⟨y0, y1, _, _⟩ := (hKj.out.alloc (.cells #[.string x] 9)).two
        clear hW4 hx
        go_wp2_with fail
        rw [HW4.out]
        refine HG.out.mono ?_
        rintro e w4 ⟨hq, hb⟩
        have HB5 : Hid (Below w.heap.size w w4) := HBW.out.trans (hb.mono HBW.out.size)
        have HK5 := Lib.hid ((hKj.out.below HB4.out hKj.out.lt).below hb (by have := hKj.out.lt; omega))
        have HS5 : Hid (Sl w4 w4.heap.size 1 (some ⟨b, off, none⟩) m (strs (ns.map ub))) := sl_on' (sl_on' hSj.out HB4.out) hb
        have HN5 := Lib.hid (HK4.out.below hb HK4.out.lt)
        have z5 : wr.heap.size < w4.heap.size := by have := hb.size; omega
        clear hb HG HW4 y0 y1 x0 x1 f0 f1
        rcases hq with ⟨o, s, hg, ho, rfl, hm, _⟩ | ⟨hg, rfl⟩
        case inr =>
          have HF := Lib.hid (hI.out.no hjn hg)
          simp only [obV, obC, zOb, zOs]
          clear hg
          go_wp2_with fail
          go_ret2
          exact ⟨by rw [HF.out]; rfl, HB5.out.alloc HB5.out.size _⟩
        case inl =>
          obtain ⟨W5, hW5⟩ : ∃ W5, w4.alloc (.cells (obC o s) 82) = W5 := ⟨_, rfl⟩
          have HB6 : Hid (Below w4.heap.size w4 W5) := by rw [← hW5]; exact (Below.refl _ w4).alloc (Nat.le_refl _) _
          have HO6 : Hid (Bk W5 w4.heap.size 82 (obC o s)) := by rw [← hW5]; exact Bk.new w4 _ _
          have HBV : Hid (Below w.heap.size w W5) := HB5.out.trans (HB6.out.mono HB5.out.size)
          have HE6 : Hid (Sl W5 W5.heap.size 4 s.eA s.en (flat enC o.ents)) := (hm.e.below HB6.out (Nat.le_refl _)).more HB6.out.size
          have HK6 := Lib.hid (HK5.out.below HB6.out HK5.out.lt)
          have HS6 := Lib.hid (sl_on' HS5.out HB6.out)
          have HN6 := Lib.hid (HN5.out.below HB6.out HN5.out.lt)
          have hlen : s.en ≤ 9223372036854775807 := by have := Nat.le_trans hm.ele hm.emx; unfold maxLen at this; exact this
          have HEL := Lib.hid hm.elen
          have z6 : w4.heap.size < W5.heap.size := HO6.out.lt
          have HW5 := Lib.hid hW5
          obtain ⟨q0, q1, q2, q3, q4, q5, q6, q7, q8⟩ := (show Bk W5 w4.heap.size 82 #[.int .i64 o.kind, .string o.data, .slice s.eA s.en s.ec, .int .u64 o.tree.1, .int .u64 o.tree.2, .slice s.pA s.pn s.pc, .string o.auth, .int .i64 o.time, .string o.msg] from HO6.out).nine
          rw [← hW5] at q0 q1 q2 q3 q4 q5 q6 q7 q8
          simp only [obC] at q0 q1 q2 q3 q4 q5 q6 q7 q8 HW5
          simp only [obV, obC]
          clear hm hW5
          by_cases hk : o.kind = 2
          case neg =>
            have HF := Lib.hid (hI.out.kind hjn hg hk)
            have t1 : (o.kind != 2) = true := by rw [bne_iff_ne]; exact hk
            clear hk hg
            go_wp2_with fail
            rw [HW5.out]
            go_ret2
            exact ⟨by rw [HF.out]; rfl, HBV.out⟩
          case pos =>
            have t1 : (o.kind != 2) = false := by rw [hk]; rfl
            have HIX := Lib.hid (ixe_any s.eA s.en s.ec wr.heap.size o.ents x W5 HE6.out HN6.out hlen)
            have HG := Lib.hid hg; have HKD := Lib.hid hk
            unfold IxE at HIX
            clear hk hg
            go_wp2_with fail
            rw [HW5.out]
            refine HIX.out.mono ?_
            rintro e w6 ⟨hq, hb⟩
            have HB7 : Hid (Below w.heap.size w w6) := HBV.out.trans (hb.mono HBV.out.size)
            have HO7 := Lib.hid (HO6.out.below hb HO6.out.lt)
            have HK7 := Lib.hid (HK6.out.below hb HK6.out.lt)
            have HS7 := Lib.hid (sl_on' HS6.out hb)
            have HE7 := Lib.hid (sl_on' HE6.out hb)
            clear hb HIX q0 q1 q2 q3 q4 q5 q6 q7 q8 HO6 HK6 HS6 HE6 HN6 HW5
            obtain ⟨q0, q1, q2, q3, q4, q5, q6, q7, q8⟩ := (show Bk w6 w4.heap.size 82 #[.int .i64 o.kind, .string o.data, .slice s.eA s.en s.ec, .int .u64 o.tree.1, .int .u64 o.tree.2, .slice s.pA s.pn s.pc, .string o.auth, .int .i64 o.time, .string o.msg] from HO7.out).nine
            obtain ⟨y0, y1, _, _⟩ := HK7.out.two
            have g0 := HK7.out.free 0; have g1 := HK7.out.free 1
            rcases hq with ⟨i, en, hi, hei, hent, rfl⟩ | ⟨hent, rfl⟩
            case inr =>
              have HF := Lib.hid (hI.out.ent hjn HNO.out HG.out HKD.out (by rw [← HX.out]; exact hent))
              clear hent
              go_wp2_with fail
              go_ret2
              exact ⟨by rw [HF.out]; rfl, HB7.out⟩
            case inl =>
              rw [HEL.out] at hi
              obtain ⟨b2, off2, en', hA2, hb2, hx2, c0, c1, c2, c3⟩ := HE7.out.en hi
              rw [hei] at hx2
              injection hx2 with hx2
              subst hx2
              obtain ⟨nm, dir, n1, n2⟩ := en
              have HENT : Hid (entN o.ents (ub ns[j]) = some ⟨nm, dir, n1, n2⟩) := by show _ = _; rw [← HX.out]; exact hent
              simp only at c0 c1 c2 c3
              have hi0 : ¬ ((i : Int) < 0) := by omega
              have hm1 : IntKind.i64.wrap ((m : Int) - 1) = (m : Int) - 1 := by rw [IntKind.wrap_i64]; omega
              have hw1 : IntKind.i64.wrap ((j : Int) + 1) = (j : Int) + 1 := by rw [IntKind.wrap_i64]; omega
              have hsen : s.eA = some ⟨b2, off2, none⟩ := hA2
              clear hent hei hA2
              rw [hsen] at q2
              have HSE : Hid (Sl ((w6.setCell ⟨w1.heap.size, 0, none⟩ (.int .u64 n1)).setCell ⟨w1.heap.size, 1, none⟩ (.int .u64 n2)) ((w6.setCell ⟨w1.heap.size, 0, none⟩ (.int .u64 n1)).setCell ⟨w1.heap.size, 1, none⟩ (.int .u64 n2)).heap.size 1 (some ⟨b, off, none⟩) m (strs (ns.map ub))) := by
                have h1 := HS7.out.ne (b := w1.heap.size) (w' := (w6.setCell ⟨w1.heap.size, 0, none⟩ (.int .u64 n1)).setCell ⟨w1.heap.size, 1, none⟩ (.int .u64 n2)) (fun a ha0 ha hab => by
                    obtain ⟨b', off', x', e', _, _, hc'⟩ := HS7.out.str_at ha0
                    rw [ha] at e'
                    injection e' with e'
                    subst e'
                    simp only at hab
                    subst hab
                    rw [HK7.out.cell] at hc'
                    rcases off' with _ | _ | off'
                    · simp at hc'
                    · simp at hc'
                    · simp at hc') (fun k hk => (Below.heap_setCell _ _ _ k hk).trans (Below.heap_setCell _ _ _ k hk))
                exact Lib.hid (by simpa using h1)
              by_cases hl : j + 1 < m
              · have hl1 : ((j : Int) == (m : Int) - 1) = false := beq_eq_false_iff_ne.2 (by omega)
                cases dir with
                | false =>
                  have HF := Lib.hid (hI.out.dir hjn HNO.out HG.out HKD.out HENT.out (by rw [HM.out]; simp [hl]))
                  go_wp2_with fail
                  go_ret2
                  exact ⟨by rw [HF.out]; rfl, HB7.out⟩
                | true =>
                  have HF := Lib.hid (hI.out.next hjn HNO.out HG.out HKD.out HENT.out (by rw [HM.out]; simp [hl]))
                  go_wp2_with fail
                  refine ⟨⟨j + 1, n1, n2, by go_num, hlt, HF.out, HK7.out.set2 _ _, below_set2 HB7.out (by omega) _ _, HSE.out⟩, ?_⟩
                  simp [intOf]; omega
              · have hl1 : ((j : Int) == (m : Int) - 1) = true := beq_iff_eq.2 (by omega)
                cases dir with
                | true =>
                  have HF := Lib.hid (hI.out.dir hjn HNO.out HG.out HKD.out HENT.out (by rw [HM.out]; simp [hl]))
                  go_wp2_with fail
                  go_ret2
                  exact ⟨by rw [HF.out]; rfl, HB7.out⟩
                | false =>
                  have HF := Lib.hid (hI.out.next hjn HNO.out HG.out HKD.out HENT.out (by rw [HM.out]; simp [hl]))
                  go_wp2_with fail
                  refine ⟨⟨j + 1, n1, n2, by go_num, hlt, HF.out, HK7.out.set2 _ _, below_set2 HB7.out (by omega) _ _, HSE.out⟩, ?_⟩
                  simp [intOf]; omega
      · have hltz : ¬ (j : Int) < (m : Int) := by omega
        have HD := Lib.hid (hI.out.done (by rw [HM.out]; exact hlt))
        have HC := Lib.hid (tdata_any A np cp B p (e1, e2) wr (H0.out.below hBj.out hB) (Nat.le_trans hB hBj.out.size) hn HP.out)
        unfold DatE at HC
        simp only [digV] at HC
        go_wp2_with fail
        refine HC.out.mono ?_
        rintro e w4 ⟨rfl, hb⟩
        have HBE : Hid (Below w.heap.size w w4) := hBj.out.trans (hb.mono hBj.out.size)
        clear hb HC
        go_wp2_with fail
        go_ret2
        exact ⟨by rw [HD.out]; rfl, HBE.out⟩
end Go.Proofs.YtmdhlkkekidknaaGreatDoor

namespace Go.Proofs.YtmdhlkkekidknaaGreatDoor
open Go.RowKit

def StrE (p : List Itm) (l : List Fl) (w : World) (e : Ending) (w' : World) : Prop :=
  ((∃ z, TckR l z ∧ z ≠ 0 ∧ e = .returned (.tuple #[.slice none 0 0, digV zD, .int .i64 z])) ∨
   (TckR l 0 ∧ ((∃ q d A c, sto 101 p l = some (q, d) ∧ StoR p q d l ∧ e = .returned (.tuple #[.slice A q.length c, digV d, .int .i64 0]) ∧ Sl w' w'.heap.size 3 A q.length (flat itC q) ∧ q.length ≤ c ∧ c ≤ maxLen) ∨ (sto 101 p l = none ∧ e = .returned (.tuple #[.slice none 0 0, digV zD, .int .i64 16]))))) ∧ Below w.heap.size w w'
theorem wt_ok {l : List Fl} (h : OkL l) : wt l ≤ 20200 := by
  have h1 := wt_le (l := l) (k := 100) (fun f hf => path_len (h.path f hf))
  have h2 := h.few
  have : (100 + 1) * l.length ≤ 101 * 200 := Nat.mul_le_mul_left 101 h2
  omega
set_option maxRecDepth 100000 in
set_option maxHeartbeats 4000000 in
theorem tstore_any (A : Option Addr) (n c B : Nat) (p : List Itm) (A1 : Option Addr) (m c1 : Nat) (l : List Fl) (w : World) (h0 : Sl w B 3 A n (flat itC p)) (h1 : Sl w B 2 A1 m (flat flC l)) (hB : B ≤ w.heap.size) (hnc : n ≤ c) (hcm : c ≤ maxLen) (hn : n ≤ 700000) (hm : m ≤ 1000000) (hp : PlOk p) (hsz : ∀ f ∈ l, f.1.size ≤ 1000000 ∧ f.2.size ≤ 60000) :
    Calls Tryz.prog 15 #[.slice A n c, .slice A1 m c1] w (StrE p l w) := by
  have HP := Lib.hid hp; have H0 := Lib.hid h0; have H1 := Lib.hid h1; have HSZ := Lib.hid hsz; have HNC := Lib.hid hnc; have HCM := Lib.hid hcm
  obtain ⟨W, hW⟩ : ∃ W, w.alloc (.cells #[.int .u64 0, .int .u64 0] 30) = W := ⟨_, rfl⟩
  have HB0 : Hid (Below w.heap.size w W) := by rw [← hW]; exact (Below.refl _ w).alloc (Nat.le_refl _) _
  have HD : Hid (Bk W w.heap.size 30 #[.int .u64 0, .int .u64 0]) := by rw [← hW]; exact Bk.new w _ _
  have HC := Lib.hid (tcheck_any A1 m c1 B l W (h1.below HB0.out hB) (Nat.le_trans hB HB0.out.size) hm hsz)
  have HW := Lib.hid hW
  have zW : w.heap.size < W.heap.size := HD.out.lt
  clear hp h0 h1 hsz hnc hcm hW
  go_enter Tryz.func15, Tryz.ntmps15
  go_wp2_with fail
  rw [HW.out]
  refine HC.out.mono ?_
  rintro e w2 ⟨z, rfl, hz, hb⟩
  have HZ := Lib.hid hz
  have HB2 : Hid (Below w.heap.size w w2) := HB0.out.trans (hb.mono HB0.out.size)
  have HD2 := Lib.hid (HD.out.below hb zW)
  obtain ⟨y0, y1, _, _⟩ := HD2.out.two
  have g0 := HD2.out.free 0; have g1 := HD2.out.free 1
  have z2 := hb.size
  clear hz hb HC
  by_cases h0 : z = 0
  · have t1 : (z != 0) = false := by rw [h0]; rfl
    have HZ0 : Hid (TckR l 0) := by show TckR l 0; rw [← h0]; exact HZ.out
    obtain ⟨hok, _⟩ := ck_ok HZ0.out (fun f hf => (HSZ.out f hf).2)
    have hwt := wt_ok hok
    have HS := Lib.hid (store_all 100 l hok (fun f hf => path_len (hok.path f hf)) p A n c A1 m c1 B w2 (H0.out.below HB2.out hB) (H1.out.below HB2.out hB) (Nat.le_trans hB HB2.out.size) HNC.out HCM.out HP.out (by omega))
    unfold StoE at HS
    simp only [digV] at HS
    clear h0 hok hwt
    go_wp2_with fail
    refine HS.out.mono ?_
    rintro e w3 ⟨hq, hb⟩
    have HB3 : Hid (Below w.heap.size w w3) := HB2.out.trans (hb.mono HB2.out.size)
    have HD3 := Lib.hid (HD2.out.below hb (by omega))
    obtain ⟨y0, y1, _, _⟩ := HD3.out.two
    have g0 := HD3.out.free 0; have g1 := HD3.out.free 1
    clear hb HS
    rcases hq with ⟨q, ⟨d1, d2⟩, A2, c2, hs, hr, rfl, hsl, hc2, hm2, _⟩ | ⟨hs, rfl⟩
    · have HN := Lib.hid hs; have HR := Lib.hid hr; have HSL := Lib.hid hsl
      have HNE := Lib.hid (HSL.out.dgbox HD3.out)
      clear hs hr hsl
      go_wp2_with fail
      refine bodyPost_ret (res_pcp Tryz.results15 rfl rfl (HD3.out.set2 _ _) rfl) rfl ⟨.inr ⟨HZ0.out, .inl ⟨q, (d1, d2), A2, c2, HN.out, HR.out, rfl, ?_, hc2, hm2⟩⟩, below_set2 HB3.out (Nat.le_refl _) _ _⟩
      have := HSL.out.ne (b := w.heap.size) HNE.out (fun k hk => (Below.heap_setCell (w3.setCell ⟨w.heap.size, 0, none⟩ (.int .u64 d1)) ⟨w.heap.size, 1, none⟩ (.int .u64 d2) k hk).trans (Below.heap_setCell w3 ⟨w.heap.size, 0, none⟩ (.int .u64 d1) k hk))
      simpa using this
    · have HN := Lib.hid hs
      clear hs
      go_wp2_with fail
      refine bodyPost_ret (res_pcp Tryz.results15 rfl rfl (HD3.out.set2 _ _) rfl) rfl ⟨.inr ⟨HZ0.out, .inr ⟨HN.out, rfl⟩⟩, below_set2 HB3.out (Nat.le_refl _) _ _⟩
  · have t1 : (z != 0) = true := by rw [bne_iff_ne]; exact h0
    have H0' := Lib.hid h0
    clear h0
    go_wp2_with fail
    refine bodyPost_ret (res_pcp Tryz.results15 rfl rfl (HD2.out.set2 _ _) rfl) rfl ⟨.inl ⟨z, HZ.out, H0'.out, rfl⟩, below_set2 HB2.out (Nat.le_refl _) _ _⟩
end Go.Proofs.YtmdhlkkekidknaaGreatDoor

namespace Go.Proofs.YtmdhlkkekidknaaGreatDoor
open Go.RowKit Go.Shelf

theorem insL_with {l : List Fl} (h : AscF l) {f : Fl} (hn : lookF9 l f.1 = none) : insL l (atF l f.1) f = withF l f := by
  unfold insL withF
  obtain ⟨h1, h2⟩ := atF_split h f.1
  rw [h1, h2]
  congr 2
  refine List.filter_congr (fun g hg => ?_)
  have hne := look9_none.1 hn g hg
  cases h3 : less g.1 f.1 with
  | true => rw [lessB_asymm h3]; rfl
  | false =>
    cases h4 : less f.1 g.1 with
    | true => rfl
    | false => exact absurd (lessB_conn h3 h4) hne
theorem drop_more {l : List Fl} (h : AscF l) {s : ByteArray} {g : Fl} (hg : l[atF l s]? = some g) (he : g.1 = s) : l.drop (atF l s + 1) = l.filter (fun x => less s x.1) := by
  obtain ⟨h1, h2⟩ := atF_split h s
  have hd := drop_at hg
  have hl : l = l.take (atF l s) ++ g :: l.drop (atF l s + 1) := by rw [← hd, List.take_append_drop]
  have ha : AscF (g :: l.drop (atF l s + 1)) := by rw [← hd]; exact List.Pairwise.sublist (List.drop_sublist _ _) h
  have e1 : (l.take (atF l s)).filter (fun x => less s x.1) = [] := filter_none (fun x hx => by
    rw [h1, List.mem_filter] at hx
    exact lessB_asymm hx.2)
  have e2 : (l.drop (atF l s + 1)).filter (fun x => less s x.1) = l.drop (atF l s + 1) := filter_all (fun x hx => by rw [← he]; exact ha.head hx)
  conv => rhs; rw [hl]
  rw [List.filter_append, e1, List.nil_append, List.filter_cons_of_neg (by rw [he, lessB_irrefl]; simp), e2]
theorem set_with {l : List Fl} (h : AscF l) {f g : Fl} (hg : l[atF l f.1]? = some g) (he : g.1 = f.1) : l.take (atF l f.1) ++ f :: l.drop (atF l f.1 + 1) = withF l f := by
  rw [drop_more h hg he, (atF_split h f.1).1]; rfl
theorem Sl.replace {w : World} {B n g i : Nat} {l : List Fl} {f : Fl} (h : Sl w B 2 (some ⟨g, 0, none⟩) n (flat flC l)) (hn : l.length = n) (hi : i < n) : Sl ((w.setCell ⟨g, i * 2, none⟩ (.string f.1)).setCell ⟨g, i * 2 + 1, none⟩ (.string f.2)) B 2 (some ⟨g, 0, none⟩) n (flat flC (l.take i ++ f :: l.drop (i + 1))) := by
  obtain ⟨hl, hc⟩ := h
  have hl2 : (flat flC l).length = n * 2 := hl
  refine ⟨by rw [flat_len flC_len, ← hn]; simp; omega, fun h0 => ?_⟩
  obtain ⟨b', off', e, hb, hcell⟩ := hc h0
  injection e with e
  injection e with e1 e2
  subst e1; subst e2
  refine ⟨g, 0, rfl, hb, fun j u hu => ?_⟩
  rw [flat_append, flat_take flC_len] at hu
  have hf : flat flC (f :: l.drop (i + 1)) = flC f ++ (flat flC l).drop ((i + 1) * 2) := by
    show flC f ++ flat flC (l.drop (i + 1)) = _
    rw [flat_drop flC_len]
  rw [hf] at hu
  have htl : ((flat flC l).take (i * 2)).length = i * 2 := by rw [List.length_take]; omega
  have hcl : ∀ j, j < n * 2 → w.cell? ⟨g, j, none⟩ = (flat flC l)[j]? := fun j hj => by
    have := hcell j _ (List.getElem?_eq_getElem (by omega))
    rw [Nat.zero_add] at this
    rw [this, List.getElem?_eq_getElem (by omega)]
  rw [Nat.zero_add]
  by_cases ha : j < i * 2
  · rw [List.getElem?_append_left (by omega), List.getElem?_take, if_pos ha] at hu
    rw [World.cell?_setCell_other _ _ _ _ (by intro e; injection e with _ e; omega), World.cell?_setCell_other _ _ _ _ (by intro e; injection e with _ e; omega), hcl j (by omega)]
    exact hu
  · rw [List.getElem?_append_right (by omega), htl] at hu
    have c0 : (w.cell? ⟨g, i * 2, none⟩).isSome = true := by rw [hcl _ (by omega), List.getElem?_eq_getElem (by omega)]; rfl
    have c1 : (w.cell? ⟨g, i * 2 + 1, none⟩).isSome = true := by rw [hcl _ (by omega), List.getElem?_eq_getElem (by omega)]; rfl
    rcases Nat.lt_or_ge j (i * 2 + 2) with hb' | hb'
    · rw [List.getElem?_append_left (by have : (flC f).length = 2 := rfl; omega)] at hu
      rcases Nat.lt_or_ge j (i * 2 + 1) with hc' | hc'
      · have e : j = i * 2 := by omega
        subst e
        rw [Nat.sub_self] at hu
        rw [World.cell?_setCell_other _ _ _ _ (by simp)]
        obtain ⟨v, hv⟩ := Option.isSome_iff_exists.1 c0
        rw [World.cell?_setCell_same _ _ _ hv]
        exact hu
      · have e : j = i * 2 + 1 := by omega
        subst e
        rw [show i * 2 + 1 - i * 2 = 1 by omega] at hu
        obtain ⟨v, hv⟩ := Option.isSome_iff_exists.1 c1
        rw [World.cell?_setCell_same _ _ _ (u := v) (by rw [World.cell?_setCell_other _ _ _ _ (by simp)]; exact hv)]
        exact hu
    · rw [List.getElem?_append_right (by have : (flC f).length = 2 := rfl; omega), List.getElem?_drop] at hu
      have hj : j < n * 2 := by
        have := (List.getElem?_eq_some_iff.1 hu).1
        have : (flC f).length = 2 := rfl
        omega
      rw [World.cell?_setCell_other _ _ _ _ (by intro e; injection e with _ e; omega), World.cell?_setCell_other _ _ _ _ (by intro e; injection e with _ e; omega), hcl j hj, ← hu]
      congr 1
      have : (flC f).length = 2 := rfl
      omega
end Go.Proofs.YtmdhlkkekidknaaGreatDoor
