/-
  cordwoodref11.Check, Update, Apply.
-/
import Derived.Test.YtikmiabncbhioaaDoorRUpd
namespace Go.Proofs.YtikmiabncbhioaaDoor
open Go.RowKit

set_option maxRecDepth 100000 in
set_option maxHeartbeats 1000000 in
theorem refCheck_any (A0 A1 : Option Addr) (n0 c0 n1 c1 B : Nat) (rs : List Rf) (log : List Upd) (w : World) (h0 : Sl w B 3 A0 n0 (flat rfC rs)) (h1 : Sl w B 5 A1 n1 (flat upC log)) (hB : B ≤ w.heap.size)
    (hn1 : n1 ≤ maxLen) (hs : ∀ u ∈ log, u.1.size ≤ maxLen) :
    Calls Tryd.prog 26 #[.agg #[.slice A0 n0 c0, .slice A1 n1 c1]] w fun e w' => e = .returned (.int .i64 (checkE rs log)) ∧ Below w.heap.size w w' := by
  have HL1 := Lib.hid (h1.len upC_len (by omega))
  have H0 := Lib.hid (h0.alloc hB (.cells #[.slice A0 n0 c0, .slice A1 n1 c1] 25)); have H1 := Lib.hid (h1.alloc hB (.cells #[.slice A0 n0 c0, .slice A1 n1 c1] 25)); clear h0 h1
  have HS := Lib.hid hs; clear hs
  have HB := Lib.hid ((Below.refl w.heap.size w).alloc (Nat.le_refl _) (.cells #[.slice A0 n0 c0, .slice A1 n1 c1] 25))
  have hC : Hid (checkE rs log = if 1000 < log.length then 4 else if (runU [] log).2 ≠ 0 then (runU [] log).2 else if (runU [] log).1 = rs then 0 else 11) := rfl
  generalize checkE rs log = ce at *
  unfold maxLen at hn1
  by_cases hbig : 1000 < n1
  · go_enter Tryd.func26, Tryd.ntmps26
    go_wp2_with fail
    go_ret
    exact ⟨ret_int (by rw [hC.out, if_pos (by rw [HL1.out]; exact hbig)]), HB.out⟩
  · have hC2 : Hid (ce = if (runU [] log).2 ≠ 0 then (runU [] log).2 else if (runU [] log).1 = rs then 0 else 11) := by
      show _ = _
      rw [hC.out, if_neg (by rw [HL1.out]; exact hbig)]
    generalize hr : runU [] log = r at *
    obtain ⟨l, x⟩ := r
    have HR := Lib.hid hr; clear hr
    go_enter Tryd.func26, Tryd.ntmps26
    go_wp2_with fail
    refine (after_any A1 n1 c1 B log _ H1.out (by simp; omega) (by omega) HS.out).mono ?_
    rintro e w1 ⟨A, m, c, rfl, hSl, hmc, hcm, hb⟩
    rw [HR.out] at hSl ⊢
    simp only at hSl ⊢
    have k0 : Bk w1 w.heap.size 25 #[.slice A0 n0 c0, .slice A1 n1 c1] := (Bk.new w 25 _).below hb (by simp)
    have x0 := k0.cell 0
    simp at x0
    have HSl := Lib.hid hSl
    have H01 := Lib.hid (H0.out.below hb (by simp; omega))
    have HB1 := Lib.hid (HB.out.trans (hb.mono (by simp)))
    have hz : w.heap.size + 1 ≤ w1.heap.size := by have := hb.size; simp at this; omega
    have Hm := Lib.hid (show m ≤ maxLen by omega)
    clear hSl hb k0 hcm
    by_cases hx : x = 0
    · subst hx
      go_wp2_with fail
      refine (sameRefs_any A A0 m c n0 c0 w1.heap.size l rs _ HSl.out (H01.out.more (by omega)) Hm.out).mono ?_
      rintro e w2 ⟨rfl, k, rfl⟩
      by_cases he : l = rs
      · have hd : decide (l = rs) = true := decide_eq_true he
        have hfin : Hid (ce = 0) := by show _ = _; rw [hC2.out]; simp [he]
        rw [hd]
        clear hd he
        go_wp2_with fail
        go_ret
        exact ⟨ret_int hfin.out.symm, below_drewN' HB1.out _⟩
      · have hd : decide (l = rs) = false := decide_eq_false he
        have hfin : Hid (ce = 11) := by show _ = _; rw [hC2.out]; simp [he]
        rw [hd]
        clear hd he
        go_wp2_with fail
        go_ret
        exact ⟨ret_int hfin.out.symm, below_drewN' HB1.out _⟩
    · have hne : (x != 0) = true := by rw [bne_iff_ne]; exact hx
      have hfin : Hid (ce = x) := by show _ = _; rw [hC2.out]; simp [hx]
      clear hx
      go_wp2_with fail
      go_ret
      exact ⟨ret_int hfin.out.symm, HB1.out⟩

/-- one update, all of it -/
def updateR (rs : List Rf) (log : List Upd) (u : Upd) : List Rf × List Upd × Int :=
  if checkE rs log ≠ 0 then ([], [], checkE rs log) else stepU rs log u

theorem check_len {rs : List Rf} {log : List Upd} (h : checkE rs log = 0) : log.length ≤ 1000 := by
  unfold checkE at h
  by_cases hb : 1000 < log.length
  · rw [if_pos hb] at h; cases h
  · omega

theorem Bk.agg {w : World} {b : Nat} {t : TypeId} {x y : Value} (h : Bk w b t #[x, y]) : w.cell? ⟨b, 0, none⟩ = some x ∧ w.cell? ⟨b, 1, none⟩ = some y ∧ w.frozen? ⟨b, 0, none⟩ = false ∧ w.frozen? ⟨b, 1, none⟩ = false := by
  have h0 := h.cell 0; have h1 := h.cell 1
  simp at h0 h1
  exact ⟨h0, h1, h.free 0, h.free 1⟩

set_option maxRecDepth 100000 in
set_option maxHeartbeats 1000000 in
theorem refUpdate_any (A0 A1 : Option Addr) (n0 c0 n1 c1 B : Nat) (rs : List Rf) (log : List Upd) (u : Upd) (w : World) (h0 : Sl w B 3 A0 n0 (flat rfC rs)) (h1 : Sl w B 5 A1 n1 (flat upC log)) (hB : B ≤ w.heap.size)
    (hnc : n0 ≤ c0) (hcm : c0 ≤ maxLen) (hn0 : n0 ≤ 100000) (hn1 : n1 ≤ maxLen) (hs : u.1.size ≤ maxLen) (hs2 : ∀ u ∈ log, u.1.size ≤ maxLen) :
    Calls Tryd.prog 15 #[.agg #[.slice A0 n0 c0, .slice A1 n1 c1], updV u] w (RetR (updateR rs log u) w) := by
  have HL1 := Lib.hid (h1.len upC_len (by omega))
  have H0 := Lib.hid h0; have H1 := Lib.hid h1; clear h0 h1
  have HS := Lib.hid hs; have HS2 := Lib.hid hs2; clear hs hs2
  have HC := Lib.hid hcm; have HN1 := Lib.hid hn1; clear hcm hn1
  have HU : Hid (updateR rs log u = if checkE rs log ≠ 0 then ([], [], checkE rs log) else stepU rs log u) := rfl
  obtain ⟨s, ⟨o0, o1⟩, ⟨q0, q1⟩⟩ := u
  show Calls Tryd.prog 15 #[.agg #[.slice A0 n0 c0, .slice A1 n1 c1], .agg #[.string s, .int .u64 o0, .int .u64 o1, .int .u64 q0, .int .u64 q1]] w _
  have HR : Hid (∀ r, updateR rs log (s, (o0, o1), (q0, q1)) = r → ∀ e w', RetR r w e w' → RetR (updateR rs log (s, (o0, o1), (q0, q1))) w e w') := fun r h e w' hh => by rw [h]; exact hh
  go_enter Tryd.func15, Tryd.ntmps15
  go_wp2_with fail
  have hbel : Below w.heap.size w (((w.alloc (.cells #[.slice A0 n0 c0, .slice A1 n1 c1] 25)).alloc (.cells #[.string s, .int .u64 o0, .int .u64 o1, .int .u64 q0, .int .u64 q1] 30)).alloc (.cells #[.slice none 0 0, .slice none 0 0] 25)) :=
    (((Below.refl _ w).alloc (Nat.le_refl _) _).alloc (by simp) _).alloc (by simp; omega) _
  refine (refCheck_any A0 A1 n0 c0 n1 c1 B rs log _ (H0.out.below hbel hB) (H1.out.below hbel hB) (by simp; omega) HN1.out HS2.out).mono ?_
  rintro e w1 ⟨rfl, hb1⟩
  have k0 : Bk w1 w.heap.size 25 #[.slice A0 n0 c0, .slice A1 n1 c1] := (((Bk.new w 25 _).alloc _).alloc _).below hb1 (by simp; omega)
  have k1 : Bk w1 (w.heap.size + 1) 30 #[.string s, .int .u64 o0, .int .u64 o1, .int .u64 q0, .int .u64 q1] := by
    have := (Bk.new (w.alloc (.cells #[.slice A0 n0 c0, .slice A1 n1 c1] 25)) 30 #[.string s, .int .u64 o0, .int .u64 o1, .int .u64 q0, .int .u64 q1]).alloc (.cells #[.slice none 0 0, .slice none 0 0] 25)
    rw [World.size_alloc] at this
    exact this.below hb1 (by simp)
  have k2 : Bk w1 (w.heap.size + 1 + 1) 25 #[.slice none 0 0, .slice none 0 0] := by
    have := Bk.new ((w.alloc (.cells #[.slice A0 n0 c0, .slice A1 n1 c1] 25)).alloc (.cells #[.string s, .int .u64 o0, .int .u64 o1, .int .u64 q0, .int .u64 q1] 30)) 25 #[.slice none 0 0, .slice none 0 0]
    rw [World.size_alloc, World.size_alloc] at this
    exact this.below hb1 (by simp)
  have HB1 : Hid (Below w.heap.size w w1) := hbel.trans (hb1.mono (by simp; omega))
  have hz1 : w.heap.size + 3 ≤ w1.heap.size := by have := hb1.size; simp at this; omega
  clear hb1 hbel
  have K2 := Lib.hid k2
  obtain ⟨x0, x1, _, _⟩ := k0.agg
  have u0 := k1.cell 0; have u1 := k1.cell 1; have u2 := k1.cell 2; have u3 := k1.cell 3; have u4 := k1.cell 4
  obtain ⟨r0, r1, f0, f1⟩ := k2.agg
  simp at u0 u1 u2 u3 u4
  clear k0 k1 k2
  by_cases hc : checkE rs log = 0
  · have hlen := check_len hc
    have hst : Hid (updateR rs log (s, (o0, o1), (q0, q1)) = stepU rs log (s, (o0, o1), (q0, q1))) := by
      show _ = _
      rw [HU.out, hc, if_neg (by simp)]
    have hn1 : n1 ≤ 1000 := by rw [← HL1.out]; exact hlen
    have HCE := Lib.hid hc
    rw [HCE.out]
    clear hc hlen
    go_wp2_with fail
    refine (refUpd_any A0 A1 n0 c0 n1 c1 B rs log (s, (o0, o1), (q0, q1)) _ (H0.out.below HB1.out hB) (H1.out.below HB1.out hB) (by omega) hnc HC.out hn0 hn1 HS.out).mono ?_
    rintro e w2 ⟨A, m, c, A', m', c', rfl, s1, s2, s3, s4, s5, s6, hb2⟩
    have d2 := K2.out.below hb2 (by omega)
    obtain ⟨r0, r1, f0, f1⟩ := d2.agg
    have D2 := Lib.hid d2
    have S1 := Lib.hid s1; have S3 := Lib.hid s3; have S4 := Lib.hid s4; have S6 := Lib.hid s6
    have HB2 : Hid (Below w.heap.size w w2) := HB1.out.trans (hb2.mono (by omega))
    have hz2 : w.heap.size + 3 ≤ w2.heap.size := by have := hb2.size; omega
    clear d2 s1 s3 s4 s6 hb2
    generalize hxx : (stepU rs log (s, (o0, o1), (q0, q1))).2.2 = xx at *
    have HX := Lib.hid hxx
    clear hxx
    go_wp2
    refine bodyPost_ret (res_cell25 Tryd.results15 rfl (D2.out.set2 _ _) rfl) rfl (HR.out _ hst.out _ _ ⟨A, m, c, A', m', c', by rw [HX.out]; rfl, ?_, s2, S3.out, ?_, s5, S6.out, below_set2 HB2.out (by omega) _ _⟩)
    · exact (S1.out.box2 (by omega) (notSlice_rf _) D2.out _ _).more (Nat.le_of_eq (by simp))
    · exact (S4.out.box2 (by omega) (notSlice_up _) D2.out _ _).more (Nat.le_of_eq (by simp))
  · have hne : (checkE rs log != 0) = true := by rw [bne_iff_ne]; exact hc
    have hst : Hid (updateR rs log (s, (o0, o1), (q0, q1)) = ([], [], checkE rs log)) := by
      show _ = _
      rw [HU.out, if_pos hc]
    clear hc
    go_wp2
    exact bodyPost_ret (res_cell25 Tryd.results15 rfl (K2.out.set2 _ _) rfl) rfl (HR.out _ hst.out _ _ (retR_none rfl (below_set2 HB1.out (by omega) _ _)))
end Go.Proofs.YtikmiabncbhioaaDoor
