/-
  refs.state.update: one update on the map.
-/
import Derived.Test.YtikmiabncbhioaaDoorAfter
import Derived.Test.YtikmiabncbhioaaDoorBlk
namespace Go.Proofs.YtikmiabncbhioaaDoor
open Go.RowKit Go.Maps

abbrev K9 : Keyed Tryd.prog 9 := Maps.string_keyed Tryd.underlying9
theorem key9 {s : ByteArray} (hs : s.size ≤ maxLen) : keyOf Tryd.prog 9 (.string s) = some (.string s.data.toList) := by simp [keyOf, Tryd.underlying9, mapKey]; exact hs

/-- what a name has -/
theorem own_look {w : World} {b n : Nat} {l : List Rf} (h : w.ownsMap Tryd.prog 9 digR b n (mapD l)) {s : ByteArray} (hs : s.size ≤ maxLen) : (Instr.lookup 58 (.map (some b)) (.string s) false).run Tryd.prog w = .ok (digV (getL l s)) w := by
  obtain ⟨v, ps, hrun, hv⟩ := h.lookup K9 Tryd.underlying58 (Tryd.zeroValue28 w) (digR_mk (0, 0)) (key9 hs)
  rw [mapD_at] at hv
  rw [hrun, digR_inv hv]
theorem below_grown {w w' : World} (h : Below w.heap.size w w') (row : Option Nat) : w.grownBy w' row := ⟨h.os, h.tape, h.output, h.size, fun k hk _ => h.block k hk⟩

def RetG (b n : Nat) (r : List Rf × Int) (w : World) (e : Ending) (w' : World) : Prop :=
  e = .returned (.int .i64 r.2) ∧ w'.ownsMap Tryd.prog 9 digR b n (mapD r.1) ∧ w.grownBy w' (some b)
def stepG (l : List Rf) (u : Upd) : List Rf × Int := if errU l u ≠ 0 then (l, errU l u) else (setL l u.1 u.2.2, 0)

set_option maxHeartbeats 2000000 in
theorem stUpd_any (b n : Nat) (l : List Rf) (u : Upd) (w : World) (hown : w.ownsMap Tryd.prog 9 digR b n (mapD l)) (hl : Srt l) (hn : n < maxLen) (hs : u.1.size ≤ maxLen) :
    Calls Tryd.prog 34 #[.map (some b), updV u] w (RetG b (n + 1) (stepG l u) w) := by
  obtain ⟨s, ⟨o0, o1⟩, ⟨q0, q1⟩⟩ := u
  show Calls Tryd.prog 34 #[.map (some b), .agg #[.string s, .int .u64 o0, .int .u64 o1, .int .u64 q0, .int .u64 q1]] w _
  have HS : Hid (s.size ≤ maxLen) := hs; clear hs
  have HN := Lib.hid hn; have HL := Lib.hid hl; have HO := Lib.hid hown; have hblt := hown.lt; clear hn hl hown
  have HR : Hid (∀ r, stepG l (s, (o0, o1), (q0, q1)) = r → ∀ e w', RetG b (n + 1) r w e w' → RetG b (n + 1) (stepG l (s, (o0, o1), (q0, q1))) w e w') := fun r h e w' hh => by rw [h]; exact hh
  go_enter Tryd.func34, Tryd.ntmps34
  go_wp2_with fail
  refine (proper_any (s, (o0, o1), (q0, q1)) _ HS.out).mono ?_
  rintro e w1 ⟨rfl, hb1⟩
  have k1 : Bk w1 w.heap.size 30 #[.string s, .int .u64 o0, .int .u64 o1, .int .u64 q0, .int .u64 q1] := (Bk.new w 30 _).below hb1 (by simp)
  have HB1 : Hid (Below w.heap.size w w1) := ((Below.refl _ w).alloc (Nat.le_refl _) _).trans (hb1.mono (by simp))
  clear hb1
  have HO1 : Hid (w1.ownsMap Tryd.prog 9 digR b n (mapD l)) := HO.out.kept (below_grown HB1.out none) (by simp)
  have u0 := k1.cell 0; have u1 := k1.cell 1; have u2 := k1.cell 2; have u3 := k1.cell 3; have u4 := k1.cell 4
  simp at u0 u1 u2 u3 u4
  clear k1
  by_cases hp : properE (s, (o0, o1), (q0, q1)) = 0
  · have HP := Lib.hid hp
    rw [HP.out]
    clear hp
    have hlk := own_look HO1.out HS.out
    obtain ⟨⟨g0, g1⟩, hg⟩ : ∃ g : Dig, getL l s = g := ⟨_, rfl⟩
    rw [hg] at hlk
    have HG := Lib.hid hg; clear hg
    simp only [digV] at hlk
    by_cases heq : ((g0, g1) : Dig) = (o0, o1)
    · have t1 := dig_eq_true heq
      simp only at t1
      have herr : Hid (errU l (s, (o0, o1), (q0, q1)) = 0) := by
        show _ = _
        unfold errU
        rw [if_neg (by rw [HP.out]; simp), if_neg (by rw [show getL l (s, (o0, o1), (q0, q1)).1 = getL l s from rfl, HG.out, heq]; simp)]
      have hst : Hid (stepG l (s, (o0, o1), (q0, q1)) = (setL l s (q0, q1), 0)) := by
        show _ = _
        unfold stepG
        rw [herr.out, if_neg (by simp)]
      clear heq
      by_cases hz : ((q0, q1) : Dig) = (0, 0)
      · have t2 := dig_eq_true hz
        simp only at t2
        have HZ := Lib.hid hz; clear hz
        go_wp2_with (at_delete; refine wpList_delete_own _ rfl _ _ 58 9 rfl 28 K9 Tryd.underlying58 digR b n (mapD l) rfl HO1.out _ _ rfl (key9 HS.out) ?_; intro w2 hown2 hturn2)
        rw [mapD_del l s HL.out, ← HZ.out] at hown2
        have HO2 := Lib.hid (hown2.mono (Nat.le_succ n)); have HT2 := Lib.hid hturn2.grown
        clear hown2 hturn2
        go_wp2
        go_ret
        exact HR.out _ hst.out _ _ ⟨rfl, HO2.out, (below_grown HB1.out (some b)).trans HT2.out⟩
      · have t2 := dig_eq_false hz
        simp only at t2
        have HZ := Lib.hid hz; clear hz
        go_wp2_with (at_mapUpdate; refine wpList_mapUpdate_in _ rfl _ _ _ 58 rfl 9 28 K9 Tryd.underlying58 digR b n (mapD l) rfl HO1.out HN.out _ _ _ rfl rfl (key9 HS.out) _ _ (digR_mk (q0, q1)) ?_; intro w2 hown2 hturn2)
        rw [mapD_put l s _ HZ.out HL.out] at hown2
        have HO2 := Lib.hid hown2; have HT2 := Lib.hid hturn2.grown
        clear hown2 hturn2
        go_wp2
        go_ret
        exact HR.out _ hst.out _ _ ⟨rfl, HO2.out, (below_grown HB1.out (some b)).trans HT2.out⟩
    · have t1 := dig_eq_false heq
      simp only at t1
      have hst : Hid (stepG l (s, (o0, o1), (q0, q1)) = (l, 17)) := by
        show _ = _
        have e1 : errU l (s, (o0, o1), (q0, q1)) = 17 := by
          unfold errU
          rw [if_neg (by rw [HP.out]; simp), if_pos (by rw [show getL l (s, (o0, o1), (q0, q1)).1 = getL l s from rfl, HG.out]; exact heq)]
        unfold stepG
        rw [e1, if_pos (by simp)]
      clear heq
      go_wp2
      go_ret
      exact HR.out _ hst.out _ _ ⟨rfl, HO1.out.mono (Nat.le_succ n), below_grown HB1.out (some b)⟩
  · have hne : (properE (s, (o0, o1), (q0, q1)) != 0) = true := by rw [bne_iff_ne]; exact hp
    have hst : Hid (stepG l (s, (o0, o1), (q0, q1)) = (l, properE (s, (o0, o1), (q0, q1)))) := by
      show _ = _
      have e1 : errU l (s, (o0, o1), (q0, q1)) = properE (s, (o0, o1), (q0, q1)) := if_pos hp
      unfold stepG
      rw [e1, if_pos hp]
    clear hp
    go_wp2
    go_ret
    exact HR.out _ hst.out _ _ ⟨rfl, HO1.out.mono (Nat.le_succ n), below_grown HB1.out (some b)⟩
end Go.Proofs.YtikmiabncbhioaaDoor
