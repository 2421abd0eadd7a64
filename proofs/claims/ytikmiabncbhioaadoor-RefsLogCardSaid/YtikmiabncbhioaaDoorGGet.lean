/-
  refs.Get.
-/
import Derived.Test.YtikmiabncbhioaaDoorGet
namespace Go.Proofs.YtikmiabncbhioaaDoor
open Go.RowKit Go.Maps

theorem has_mapD (l : List Rf) (s : ByteArray) (h : OkL l) : Maps.has (mapD l) (.string s.data.toList) = !decide (getL l s = (0, 0)) := by
  unfold mapD
  rw [Maps.has_eq]
  induction l with
  | nil => simp [getL]
  | cons r l ih =>
    simp only [List.map_cons, List.any_cons]
    by_cases e : r.1 = s
    · have hz := h.2 r (by simp)
      simp [ent, e, sameKey_str, hz, getL]
    · have : ((ent r).1.sameKey (.string s.data.toList)) = false := by
        simp only [ent, sameKey_str, beq_eq_false_iff_ne]
        exact fun h => e (data_inj h)
      have hg : getL (r :: l) s = getL l s := by simp only [getL]; rw [if_neg e]
      rw [this, Bool.false_or, ih h.tail]
      congr 1
      exact decide_eq_decide.2 (by rw [hg])
theorem own_look_ok {w : World} {b n : Nat} {l : List Rf} (h : w.ownsMap Tryd.prog 9 digR b n (mapD l)) (hl : OkL l) {s : ByteArray} (hs : s.size ≤ maxLen) : (Instr.lookup 58 (.map (some b)) (.string s) true).run Tryd.prog w = .ok (.tuple #[digV (getL l s), .bool (!decide (getL l s = (0, 0)))]) w := by
  obtain ⟨v, ps, hrun, hv⟩ := h.look_ok K9 Tryd.underlying58 (Tryd.zeroValue28 w) (digR_mk (0, 0)) (key9 hs)
  rw [mapD_at] at hv
  rw [hrun, digR_inv hv, has_mapD l s hl]

set_option maxRecDepth 100000 in
set_option maxHeartbeats 1000000 in
theorem goGet_any (A0 A1 : Option Addr) (n0 c0 n1 c1 B : Nat) (rs : List Rf) (log : List Upd) (s : ByteArray) (w : World) (h0 : Sl w B 3 A0 n0 (flat rfC rs)) (h1 : Sl w B 5 A1 n1 (flat upC log)) (hB : B ≤ w.heap.size)
    (hn0 : n0 ≤ maxLen) (hn1 : n1 ≤ maxLen) (hs : s.size ≤ maxLen) (hs2 : ∀ u ∈ log, u.1.size ≤ maxLen) :
    Calls Tryd.prog 23 #[.agg #[.slice A0 n0 c0, .slice A1 n1 c1], .string s] w (RetD (getR rs log s) w) := by
  have H0 := Lib.hid h0; have H1 := Lib.hid h1; clear h0 h1
  have HS := Lib.hid hs; have HS2 := Lib.hid hs2; have HN0 := Lib.hid hn0; have HN1 := Lib.hid hn1; clear hs hs2 hn0 hn1
  have HR : Hid (∀ r, getR rs log s = r → ∀ e w', RetD r w e w' → RetD (getR rs log s) w e w') := fun r h e w' hh => by rw [h]; exact hh
  have HG : Hid (getR rs log s = if checkE rs log ≠ 0 then ((0, 0), checkE rs log) else if nameB s then (if getL rs s = (0, 0) then ((0, 0), 8) else (getL rs s, 0)) else ((0, 0), 6)) := rfl
  go_enter Tryd.func23, Tryd.ntmps23
  go_wp2_with fail
  have hbel : Below w.heap.size w ((w.alloc (.cells #[.slice A0 n0 c0, .slice A1 n1 c1] 25)).alloc (.cells #[.int .u64 0, .int .u64 0] 28)) := ((Below.refl _ w).alloc (Nat.le_refl _) _).alloc (by simp) _
  refine (open_any A0 A1 n0 c0 n1 c1 B rs log _ (H0.out.below hbel hB) (H1.out.below hbel hB) (by simp; omega) HN0.out HN1.out HS2.out).mono ?_
  rintro e w1 ⟨mb, rfl, hb1, hm⟩
  have k1 : Bk w1 (w.heap.size + 1) 28 #[.int .u64 0, .int .u64 0] := by
    have := Bk.new (w.alloc (.cells #[.slice A0 n0 c0, .slice A1 n1 c1] 25)) 28 #[.int .u64 0, .int .u64 0]
    rw [World.size_alloc] at this
    exact this.below hb1 (by simp)
  have HB1 : Hid (Below w.heap.size w w1) := hbel.trans (hb1.mono (by simp; omega))
  have hz1 : w.heap.size + 2 ≤ w1.heap.size := by have := hb1.size; simp at this; omega
  have HM := Lib.hid hm
  clear hb1 hbel hm
  have K1 := Lib.hid k1
  obtain ⟨r0, r1, f0, f1⟩ := k1.agg
  clear k1
  by_cases hc : checkE rs log = 0
  · have HCE := Lib.hid hc
    have HOK := Lib.hid (check_ok hc)
    obtain ⟨b, rfl, hbge, hown⟩ := HM.out hc
    have HO := Lib.hid hown; have hbl := hown.lt
    clear hown hbge HM
    rw [HCE.out]
    clear hc
    go_wp2_with fail
    refine (isName_any s _ HS.out).mono ?_
    rintro e w2 ⟨rfl, hb2⟩
    have hz2 := hb2.size
    have K2 := Lib.hid (K1.out.below hb2 (by omega))
    have HB2 := Lib.hid (HB1.out.trans (hb2.mono (by omega)))
    have HO2 := Lib.hid (HO.out.kept (below_grown hb2 none) (by simp))
    clear hb2 r0 r1 f0 f1
    obtain ⟨r0, r1, f0, f1⟩ := K2.out.agg
    cases hn : nameB s with
    | false =>
      have hst : Hid (getR rs log s = ((0, 0), 6)) := by show _ = _; rw [HG.out, HCE.out, hn]; simp
      clear hn
      go_wp2
      exact bodyPost_ret (res_cell28 Tryd.results23 rfl (K2.out.set2 _ _) rfl) rfl (HR.out _ hst.out _ _ ⟨rfl, below_set2 HB2.out (by omega) _ _⟩)
    | true =>
      have hst : Hid (getR rs log s = if getL rs s = (0, 0) then ((0, 0), 8) else (getL rs s, 0)) := by show _ = _; rw [HG.out, HCE.out, hn]; simp
      clear hn
      have hlk := own_look_ok HO2.out HOK.out HS.out
      obtain ⟨⟨g0, g1⟩, hg⟩ : ∃ g : Dig, getL rs s = g := ⟨_, rfl⟩
      rw [hg] at hst hlk
      have HGL := Lib.hid hg; clear hg
      simp only [digV] at hlk
      have J1 := Lib.hid (K2.out.alloc (.cells #[.int .u64 g0, .int .u64 g1] 28))
      have HB3 : Hid (Below w.heap.size w (w2.alloc (.cells #[.int .u64 g0, .int .u64 g1] 28))) := HB2.out.alloc (by omega) _
      obtain ⟨q0, q1, e0, e1⟩ := J1.out.agg
      by_cases hz : ((g0, g1) : Dig) = (0, 0)
      · rw [decide_eq_true hz] at hlk
        simp only [Bool.not_true] at hlk
        have hfin : Hid (getR rs log s = ((0, 0), 8)) := by show _ = _; rw [hst.out, if_pos hz]
        clear hz
        go_wp2
        exact bodyPost_ret (res_cell28 Tryd.results23 rfl (J1.out.set2 _ _) rfl) rfl (HR.out _ hfin.out _ _ ⟨rfl, below_set2 HB3.out (by omega) _ _⟩)
      · rw [decide_eq_false hz] at hlk
        simp only [Bool.not_false] at hlk
        have hfin : Hid (getR rs log s = ((g0, g1), 0)) := by show _ = _; rw [hst.out, if_neg hz]
        clear hz
        go_wp2
        exact bodyPost_ret (res_cell28 Tryd.results23 rfl (J1.out.set2 _ _) rfl) rfl (HR.out _ hfin.out _ _ ⟨rfl, below_set2 HB3.out (by omega) _ _⟩)
  · have hne : (checkE rs log != 0) = true := by rw [bne_iff_ne]; exact hc
    have hst : Hid (getR rs log s = ((0, 0), checkE rs log)) := by show _ = _; rw [HG.out, if_pos hc]
    clear hc HM
    go_wp2
    exact bodyPost_ret (res_cell28 Tryd.results23 rfl (K1.out.set2 _ _) rfl) rfl (HR.out _ hst.out _ _ ⟨rfl, below_set2 HB1.out (by omega) _ _⟩)
end Go.Proofs.YtikmiabncbhioaaDoor
