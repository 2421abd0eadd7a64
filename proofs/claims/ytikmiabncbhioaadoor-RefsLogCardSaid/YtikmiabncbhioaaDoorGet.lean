/-
  Get, by the program and by the reference.
-/
import Derived.Test.YtikmiabncbhioaaDoorLaw
namespace Go.Proofs.YtikmiabncbhioaaDoor
open Go.RowKit Go.Maps

/-- what Get answers -/
def getR (rs : List Rf) (log : List Upd) (s : ByteArray) : Dig × Int :=
  if checkE rs log ≠ 0 then ((0, 0), checkE rs log) else if nameB s then (if getL rs s = (0, 0) then ((0, 0), 8) else (getL rs s, 0)) else ((0, 0), 6)
def RetD (r : Dig × Int) (w : World) (e : Ending) (w' : World) : Prop := e = .returned (.tuple #[.agg #[.int .u64 r.1.1, .int .u64 r.1.2], .int .i64 r.2]) ∧ Below w.heap.size w w'
theorem res_cell28 {fn : Func} {c i : Tmp} (h : fn.results = #[.cell c 28, .tmp i]) {w : World} {a : Array Value} {b : Nat} {x y v : Value} (ha : a[c]?.getD undef = .pointer (some ⟨b, 0, none⟩)) (hk : Bk w b 28 #[x, y]) (hv : a[i]?.getD undef = v) :
    (results fn a).run Tryd.prog w = .ok (.tuple #[.agg #[x, y], v]) w := by
  have h0 := hk.cell 0; have h1 := hk.cell 1
  simp at h0 h1
  simp [results, h, ha, hv, go_sem, h0, h1]

set_option maxRecDepth 100000 in
set_option maxHeartbeats 1000000 in
theorem refGet_any (A0 A1 : Option Addr) (n0 c0 n1 c1 B : Nat) (rs : List Rf) (log : List Upd) (s : ByteArray) (w : World) (h0 : Sl w B 3 A0 n0 (flat rfC rs)) (h1 : Sl w B 5 A1 n1 (flat upC log)) (hB : B ≤ w.heap.size)
    (hn0 : n0 ≤ maxLen) (hn1 : n1 ≤ maxLen) (hs : s.size ≤ maxLen) (hs2 : ∀ u ∈ log, u.1.size ≤ maxLen) :
    Calls Tryd.prog 24 #[.agg #[.slice A0 n0 c0, .slice A1 n1 c1], .string s] w (RetD (getR rs log s) w) := by
  have H0 := Lib.hid h0; have H1 := Lib.hid h1; clear h0 h1
  have HS := Lib.hid hs; have HS2 := Lib.hid hs2; have HN0 := Lib.hid hn0; have HN1 := Lib.hid hn1; clear hs hs2 hn0 hn1
  have HR : Hid (∀ r, getR rs log s = r → ∀ e w', RetD r w e w' → RetD (getR rs log s) w e w') := fun r h e w' hh => by rw [h]; exact hh
  have HG : Hid (getR rs log s = if checkE rs log ≠ 0 then ((0, 0), checkE rs log) else if nameB s then (if getL rs s = (0, 0) then ((0, 0), 8) else (getL rs s, 0)) else ((0, 0), 6)) := rfl
  go_enter Tryd.func24, Tryd.ntmps24
  go_wp2_with fail
  have hbel : Below w.heap.size w ((w.alloc (.cells #[.slice A0 n0 c0, .slice A1 n1 c1] 25)).alloc (.cells #[.int .u64 0, .int .u64 0] 28)) := ((Below.refl _ w).alloc (Nat.le_refl _) _).alloc (by simp) _
  refine (refCheck_any A0 A1 n0 c0 n1 c1 B rs log _ (H0.out.below hbel hB) (H1.out.below hbel hB) (by simp; omega) HN1.out HS2.out).mono ?_
  rintro e w1 ⟨rfl, hb1⟩
  have k0 : Bk w1 w.heap.size 25 #[.slice A0 n0 c0, .slice A1 n1 c1] := ((Bk.new w 25 _).alloc _).below hb1 (by simp; omega)
  have k1 : Bk w1 (w.heap.size + 1) 28 #[.int .u64 0, .int .u64 0] := by
    have := Bk.new (w.alloc (.cells #[.slice A0 n0 c0, .slice A1 n1 c1] 25)) 28 #[.int .u64 0, .int .u64 0]
    rw [World.size_alloc] at this
    exact this.below hb1 (by simp)
  have HB1 : Hid (Below w.heap.size w w1) := hbel.trans (hb1.mono (by simp; omega))
  have hz1 : w.heap.size + 2 ≤ w1.heap.size := by have := hb1.size; simp at this; omega
  clear hb1 hbel
  have K1 := Lib.hid k1
  obtain ⟨x0, x1, _, _⟩ := k0.agg
  obtain ⟨r0, r1, f0, f1⟩ := k1.agg
  clear k0 k1
  by_cases hc : checkE rs log = 0
  · have HCE := Lib.hid hc
    rw [HCE.out]
    clear hc
    go_wp2_with fail
    refine (refName_any s _ HS.out).mono ?_
    rintro e w' ⟨rfl, rfl⟩
    cases hn : nameB s with
    | false =>
      have hst : Hid (getR rs log s = ((0, 0), 6)) := by show _ = _; rw [HG.out, HCE.out, hn]; simp
      clear hn
      go_wp2
      exact bodyPost_ret (res_cell28 Tryd.results24 rfl (K1.out.set2 _ _) rfl) rfl (HR.out _ hst.out _ _ ⟨rfl, below_set2 HB1.out (by omega) _ _⟩)
    | true =>
      have hst : Hid (getR rs log s = if getL rs s = (0, 0) then ((0, 0), 8) else (getL rs s, 0)) := by show _ = _; rw [HG.out, HCE.out, hn]; simp
      clear hn
      go_wp2_with fail
      refine (get_any A0 n0 c0 B rs s _ (H0.out.below HB1.out hB) (by omega) HN0.out).mono ?_
      obtain ⟨⟨g0, g1⟩, hg⟩ : ∃ g : Dig, getL rs s = g := ⟨_, rfl⟩
      rw [hg] at hst ⊢
      have HGL := Lib.hid hg; clear hg
      rintro e w2 ⟨rfl, hb2⟩
      simp only [digV]
      have hz2 := hb2.size
      have j1 := (K1.out.below hb2 (by omega)).alloc (.cells #[.int .u64 g0, .int .u64 g1] 28)
      have HB2 : Hid (Below w.heap.size w (w2.alloc (.cells #[.int .u64 g0, .int .u64 g1] 28))) := (HB1.out.trans (hb2.mono (by omega))).alloc (by omega) _
      have j2 := Bk.new w2 28 #[.int .u64 g0, .int .u64 g1]
      clear hb2 x0 x1 r0 r1 f0 f1
      obtain ⟨r0, r1, f0, f1⟩ := j1.agg
      obtain ⟨g0', g1', _, _⟩ := j2.agg
      have J1 := Lib.hid j1; clear j1 j2
      by_cases hz : ((g0, g1) : Dig) = (0, 0)
      · have t1 := dig_eq_true hz
        simp only at t1
        have hfin : Hid (getR rs log s = ((g0, g1), 8)) := by show _ = _; rw [hst.out, if_pos hz, hz]
        clear hz
        go_wp2
        exact bodyPost_ret (res_cell28 Tryd.results24 rfl (J1.out.set2 _ _) rfl) rfl (HR.out _ hfin.out _ _ ⟨rfl, below_set2 HB2.out (by omega) _ _⟩)
      · have t1 := dig_eq_false hz
        simp only at t1
        have hfin : Hid (getR rs log s = ((g0, g1), 0)) := by show _ = _; rw [hst.out, if_neg hz]
        clear hz
        go_wp2
        exact bodyPost_ret (res_cell28 Tryd.results24 rfl (J1.out.set2 _ _) rfl) rfl (HR.out _ hfin.out _ _ ⟨rfl, below_set2 HB2.out (by omega) _ _⟩)
  · have hne : (checkE rs log != 0) = true := by rw [bne_iff_ne]; exact hc
    have hst : Hid (getR rs log s = ((0, 0), checkE rs log)) := by show _ = _; rw [HG.out, if_pos hc]
    clear hc
    go_wp2
    exact bodyPost_ret (res_cell28 Tryd.results24 rfl (K1.out.set2 _ _) rfl) rfl (HR.out _ hst.out _ _ ⟨rfl, below_set2 HB1.out (by omega) _ _⟩)
end Go.Proofs.YtikmiabncbhioaaDoor
