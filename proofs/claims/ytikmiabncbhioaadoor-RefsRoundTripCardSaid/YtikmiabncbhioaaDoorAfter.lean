/-
  cordwoodref11.after: the refs to which updates lead.
-/
import Derived.Test.YtikmiabncbhioaaDoorSet
import Derived.Deep.RegionHeld3
namespace Go.Proofs.YtikmiabncbhioaaDoor
open Go.RowKit

/-- refs and an error are handed back. -/
def RetRefsE (l : List Rf) (x : Int) (w : World) (e : Ending) (w' : World) : Prop :=
  ∃ A m c, e = .returned (.tuple #[.slice A m c, .int .i64 x]) ∧ Sl w' w'.heap.size 3 A m (flat rfC l) ∧ m ≤ c ∧ c ≤ maxLen ∧ Below w.heap.size w w'

theorem runU_step (l : List Rf) (u : Upd) (us : List Upd) : runU l (u :: us) = if errU l u ≠ 0 then (l, errU l u) else runU (setL l u.1 u.2.2) us := rfl
theorem setL_len (s : ByteArray) (d : Dig) : ∀ l : List Rf, (setL l s d).length ≤ l.length + 1
  | [] => by unfold setL; split <;> simp
  | r :: l => by
    unfold setL
    split
    · simpa using setL_len s d l
    · split <;> split <;> simp <;> omega

theorem below_size_le {B : Nat} {w w' : World} (h : Below B w w') : w.heap.size ≤ w'.heap.size := h.size

set_option maxRecDepth 100000 in
set_option maxHeartbeats 4000000 in
theorem after_any (A1 : Option Addr) (n1 c1 B : Nat) (us : List Upd) (w : World) (h0 : Sl w B 5 A1 n1 (flat upC us)) (hB : B ≤ w.heap.size) (hn : n1 ≤ 100000) (hs : ∀ u ∈ us, u.1.size ≤ maxLen) :
    Calls Tryd.prog 40 #[.slice A1 n1 c1] w (RetRefsE (runU [] us).1 (runU [] us).2 w) := by
  have HL0 := Lib.hid (h0.len upC_len (by omega))
  have H0 := Lib.hid h0; clear h0
  have HS := Lib.hid hs; clear hs
  have HR : Hid (∀ l x, runU [] us = (l, x) → ∀ e w', RetRefsE l x w e w' → RetRefsE (runU [] us).1 (runU [] us).2 w e w') := fun l x h e w' hh => by rw [h]; exact hh
  generalize RetRefsE (runU [] us).1 (runU [] us).2 w = RR at *
  go_enter Tryd.func40, Tryd.ntmps40
  go_wp2
  go_loopw [4, 5] (fun v i wr => ∃ (k : Nat) (A : Option Addr) (m c : Nat) (l : List Rf), k ≤ n1 ∧ i = .int .i64 k ∧ v = .slice A m c ∧ Hid (Sl wr wr.heap.size 3 A m (flat rfC l)) ∧ m ≤ k ∧ m ≤ c ∧ Hid (c ≤ maxLen) ∧ Hid (Below w.heap.size w wr) ∧ Hid (runU [] us = runU l (us.drop k))) (fun _ i _ => n1 - (intOf i).toNat)
  case atStart =>
    refine ⟨0, _, 0, 0, [], Nat.zero_le _, rfl, rfl, Sl.nil _ _ _ _, Nat.le_refl _, Nat.le_refl _, Nat.zero_le _, (Below.refl _ _).alloc (Nat.le_refl _) _, rfl⟩
  case round =>
    obtain ⟨k, A, m, c, l, hk, rfl, rfl, hSl, hmk, hmc, hcm, hBel, hrun⟩ := hrel
    have hwz := hBel.out.size
    by_cases hlt : k < n1
    · obtain ⟨b, off, u, rfl, hbB, hu, x0, x1, x2, x3, x4⟩ := (H0.out.below hBel.out hB).upd hlt
      have HU := Lib.hid hu
      have hus : u.1.size ≤ maxLen := HS.out u (List.mem_of_getElem? hu)
      have HUS := Lib.hid hus
      clear hu hus
      have hst : Hid (runU [] us = if errU l u ≠ 0 then (l, errU l u) else runU (setL l u.1 u.2.2) (us.drop (k + 1))) := by
        show _ = _
        have hl := List.getElem?_eq_some_iff.1 HU.out
        rw [hrun.out, List.drop_eq_getElem_cons hl.1, hl.2, runU_step]
      obtain ⟨s, ⟨o0, o1⟩, ⟨q0, q1⟩⟩ := u
      go_wp2_with fail
      refine (refProper_any (s, (o0, o1), (q0, q1)) _ HUS.out).mono ?_
      rintro e w1 ⟨rfl, hb1⟩
      have hc1 := bcell hb1
      have y0 := (hc1 b (off + k * 5) (by omega)).trans x0
      have y1 := (hc1 b (off + k * 5 + 1) (by omega)).trans x1
      have y2 := (hc1 b (off + k * 5 + 2) (by omega)).trans x2
      have y3 := (hc1 b (off + k * 5 + 3) (by omega)).trans x3
      have y4 := (hc1 b (off + k * 5 + 4) (by omega)).trans x4
      have hSl1 := Lib.hid ((hSl.out.below hb1 (Nat.le_refl _)).more hb1.size)
      have hB1 := Lib.hid (hBel.out.trans (hb1.mono hwz))
      have hz1 := hb1.size
      clear hc1 hb1 x0 x1 x2 x3 x4
      by_cases hp : properE (s, (o0, o1), (q0, q1)) = 0
      · have HP := Lib.hid hp
        rw [HP.out]
        clear hp
        go_wp2_with fail
        have Hm : Hid (m ≤ maxLen) := by show _ ≤ _; unfold maxLen; omega
        obtain ⟨⟨g0, g1⟩, hg⟩ : ∃ g : Dig, getL l s = g := ⟨_, rfl⟩
        have HG := Lib.hid hg; clear hg
        by_cases heq : ((g0, g1) : Dig) = (o0, o1)
        · have t1 := dig_eq_true heq
          simp only at t1
          have HEQ := Lib.hid heq; clear heq
          go_region_held3 (fun w' => w'.cell? ⟨b, off + k * 5, none⟩ = some (.string s) ∧ w'.cell? ⟨b, off + k * 5 + 1, none⟩ = some (.int .u64 o0) ∧ w'.cell? ⟨b, off + k * 5 + 2, none⟩ = some (.int .u64 o1))
            (first | exact ⟨y0, y1, y2⟩ | exact ⟨(hb2.cell (p := ⟨b, off + k * 5, none⟩) (by show b < _; simp; omega)).trans y0, (hb2.cell (p := ⟨b, off + k * 5 + 1, none⟩) (by show b < _; simp; omega)).trans y1, (hb2.cell (p := ⟨b, off + k * 5 + 2, none⟩) (by show b < _; simp; omega)).trans y2⟩)
            (first | (go_at_call 39; refine (get_any A m c w1.heap.size l s _ hSl1.out.drew (Nat.le_refl _) Hm.out).mono ?_; rintro e w2 ⟨rfl, hb2⟩; rw [HG.out]; simp only [digV]))

          have z0 := (hb2.cell (p := ⟨b, off + k * 5, none⟩) (by show b < _; simp; omega)).trans y0
          have z3 := (hb2.cell (p := ⟨b, off + k * 5 + 3, none⟩) (by show b < _; simp; omega)).trans y3
          have z4 := (hb2.cell (p := ⟨b, off + k * 5 + 4, none⟩) (by show b < _; simp; omega)).trans y4
          have hSl2 := Lib.hid ((hSl1.out.drew.below hb2 (Nat.le_refl _)).more hb2.size)
          have hB2 := Lib.hid ((hB1.out.drew).trans (hb2.mono (by simp; omega)))
          have hz2 : w1.heap.size ≤ w2.heap.size := hb2.size
          have hcm' := Lib.hid (show m ≤ 1000000 by omega)
          clear hb2 y0 y1 y2 y3 y4
          go_wp2_with fail
          go_region_held3 (fun w' => w'.cell? ⟨b, off + k * 5, none⟩ = some (.string s) ∧ w'.cell? ⟨b, off + k * 5 + 3, none⟩ = some (.int .u64 q0) ∧ w'.cell? ⟨b, off + k * 5 + 4, none⟩ = some (.int .u64 q1))
            (first | exact ⟨z0, z3, z4⟩ | exact ⟨(hb3.cell (p := ⟨b, off + k * 5, none⟩) (by show b < _; simp; omega)).trans z0, (hb3.cell (p := ⟨b, off + k * 5 + 3, none⟩) (by show b < _; simp; omega)).trans z3, (hb3.cell (p := ⟨b, off + k * 5 + 4, none⟩) (by show b < _; simp; omega)).trans z4⟩)
            (first | (go_at_call 61; refine (set_any A m c w2.heap.size l s (q0, q1) _ hSl2.out.drew (Nat.le_refl _) hmc hcm.out hcm'.out).mono ?_; rintro e w3 ⟨A', m', c', rfl, hSl3, hmc3, hcm3, hb3, _⟩))
          have hB3 := Lib.hid ((hB2.out.drew).trans (hb3.mono (by simp; omega)))
          have HS3 := Lib.hid hSl3; have HC3 := Lib.hid hcm3
          have hml : m' ≤ k + 1 := by
            have e1 := hSl3.len rfC_len (by omega)
            have e2 := hSl2.out.len rfC_len (by omega)
            have := setL_len s (q0, q1) l
            omega
          have hnx : Hid (runU [] us = runU (setL l s (q0, q1)) (us.drop (k + 1))) := by
            show _ = _
            have e1 : errU l (s, (o0, o1), (q0, q1)) = 0 := by
              unfold errU
              rw [if_neg (by rw [HP.out]; simp), if_neg (by rw [show getL l (s, (o0, o1), (q0, q1)).1 = getL l s from rfl, HG.out, HEQ.out]; simp)]
            rw [hst.out, e1, if_neg (by simp)]
          clear hb3 hSl3 hcm3 z0 z3 z4
          go_wp2
          go_roundw
          case rel => exact ⟨k + 1, A', m', c', setL l s (q0, q1), by omega, by go_num, rfl, HS3.out, by omega, hmc3, HC3.out, hB3.out, hnx⟩
          case measure => simp [intOf]; omega
        · have t1 := dig_eq_false heq
          simp only at t1
          have HEQ := Lib.hid heq; clear heq
          go_region_held3 (fun w' => w'.cell? ⟨b, off + k * 5, none⟩ = some (.string s) ∧ w'.cell? ⟨b, off + k * 5 + 1, none⟩ = some (.int .u64 o0) ∧ w'.cell? ⟨b, off + k * 5 + 2, none⟩ = some (.int .u64 o1))
            (first | exact ⟨y0, y1, y2⟩ | exact ⟨(hb2.cell (p := ⟨b, off + k * 5, none⟩) (by show b < _; simp; omega)).trans y0, (hb2.cell (p := ⟨b, off + k * 5 + 1, none⟩) (by show b < _; simp; omega)).trans y1, (hb2.cell (p := ⟨b, off + k * 5 + 2, none⟩) (by show b < _; simp; omega)).trans y2⟩)
            (first | (go_at_call 39; refine (get_any A m c w1.heap.size l s _ hSl1.out.drew (Nat.le_refl _) Hm.out).mono ?_; rintro e w2 ⟨rfl, hb2⟩; rw [HG.out]; simp only [digV]))

          have hSl2 := Lib.hid ((hSl1.out.drew.below hb2 (Nat.le_refl _)).more hb2.size)
          have hB2 := Lib.hid ((hB1.out.drew).trans (hb2.mono (by simp; omega)))
          have hst2 : Hid (runU [] us = (l, 17)) := by
            show _ = _
            have e1 : errU l (s, (o0, o1), (q0, q1)) = 17 := by
              unfold errU
              rw [if_neg (by rw [HP.out]; simp), if_pos (by rw [show getL l (s, (o0, o1), (q0, q1)).1 = getL l s from rfl, HG.out]; exact HEQ.out)]
            rw [hst.out, e1, if_pos (by simp)]
          clear hb2
          go_wp2
          exact HR.out _ _ hst2.out _ _ ⟨A, m, c, rfl, hSl2.out, hmc, hcm.out, hB2.out⟩
      · have hne : (properE (s, (o0, o1), (q0, q1)) != 0) = true := by rw [bne_iff_ne]; exact hp
        have hst2 : Hid (runU [] us = (l, properE (s, (o0, o1), (q0, q1)))) := by
          show _ = _
          have e1 : errU l (s, (o0, o1), (q0, q1)) = properE (s, (o0, o1), (q0, q1)) := if_pos hp
          rw [hst.out, e1, if_pos hp]
        clear hp
        go_wp2
        exact HR.out _ _ hst2.out _ _ ⟨A, m, c, rfl, hSl1.out, hmc, hcm.out, hB1.out⟩
    · have hfin : Hid (runU [] us = (l, 0)) := by
        show _ = _
        rw [hrun.out, List.drop_of_length_le (by rw [HL0.out]; omega)]; rfl
      go_wp2
      exact HR.out _ _ hfin.out _ _ ⟨A, m, c, rfl, hSl.out, hmc, hcm.out, hBel.out⟩
end Go.Proofs.YtikmiabncbhioaaDoor
