/-
  refs.replay: the map to which a log leads.
-/
import Derived.Test.YtikmiabncbhioaaDoorGUpd
namespace Go.Proofs.YtikmiabncbhioaaDoor
open Go.RowKit Go.Maps

theorem setL_mem {l : List Rf} {s : ByteArray} {d : Dig} : ∀ {q : Rf}, q ∈ setL l s d → q = (s, d) ∨ q ∈ l := by
  induction l with
  | nil =>
    intro q hq
    simp only [setL] at hq
    by_cases hd : d = (0, 0)
    · rw [if_pos hd] at hq; cases hq
    · rw [if_neg hd] at hq; exact .inl (List.mem_singleton.1 hq)
  | cons r l ih =>
    intro q hq
    simp only [setL] at hq
    by_cases hl : less r.1 s = true
    · rw [if_pos hl] at hq
      rcases List.mem_cons.1 hq with rfl | hq
      · exact .inr (by simp)
      · rcases ih hq with h | h
        · exact .inl h
        · exact .inr (List.mem_cons_of_mem _ h)
    · rw [if_neg hl] at hq
      rcases List.mem_append.1 hq with hq | hq
      · by_cases hd : d = (0, 0)
        · rw [if_pos hd] at hq; cases hq
        · rw [if_neg hd] at hq; exact .inl (List.mem_singleton.1 hq)
      · by_cases e : r.1 = s
        · rw [if_pos e] at hq; exact .inr (List.mem_cons_of_mem _ hq)
        · rw [if_neg e] at hq; exact .inr hq
theorem setL_srt {l : List Rf} (s : ByteArray) (d : Dig) (h : Srt l) : Srt (setL l s d) := by
  induction l with
  | nil =>
    simp only [setL]
    by_cases hd : d = (0, 0)
    · rw [if_pos hd]; exact List.Pairwise.nil
    · rw [if_neg hd]; exact List.pairwise_singleton _ _
  | cons r l ih =>
    have hc := List.pairwise_cons.1 h
    simp only [setL]
    by_cases hl : less r.1 s = true
    · rw [if_pos hl]
      refine List.pairwise_cons.2 ⟨fun q hq => ?_, ih hc.2⟩
      rcases setL_mem hq with rfl | hq
      · exact hl
      · exact hc.1 q hq
    · rw [if_neg hl]
      have hl' : less r.1 s = false := by simpa using hl
      have key : ∀ q, (Srt q) → (∀ x ∈ q, less s x.1 = true) → Srt ((if d = (0, 0) then [] else [(s, d)]) ++ q) := by
        intro q hq hx
        by_cases hd : d = (0, 0)
        · rw [if_pos hd]; exact hq
        · rw [if_neg hd]; exact List.pairwise_cons.2 ⟨hx, hq⟩
      by_cases e : r.1 = s
      · rw [if_pos e]
        exact key l hc.2 (fun x hx => by have := hc.1 x hx; rwa [e] at this)
      · rw [if_neg e]
        have hsr : less s r.1 = true := by
          cases hx : less s r.1 with
          | true => rfl
          | false => exact absurd (data_inj (less_conn _ _ hl' hx)) e
        refine key (r :: l) h (fun x hx => ?_)
        rcases List.mem_cons.1 hx with rfl | hx
        · exact hsr
        · exact less_trans _ _ _ hsr (hc.1 x hx)
theorem runU_srt : ∀ (us : List Upd) (l : List Rf), Srt l → Srt (runU l us).1
  | [], _, h => h
  | u :: us, l, h => by
    rw [runU]
    by_cases he : errU l u ≠ 0
    · rw [if_pos he]; exact h
    · rw [if_neg he]; exact runU_srt us _ (setL_srt _ _ h)
theorem runG_step (l : List Rf) (u : Upd) (us : List Upd) : runU l (u :: us) = if (stepG l u).2 ≠ 0 then stepG l u else runU (stepG l u).1 us := by
  rw [runU]
  unfold stepG
  by_cases h : errU l u ≠ 0
  · rw [if_pos h, if_pos h, if_pos h]
  · rw [if_neg h, if_neg h, if_neg (by simp)]
theorem stepG_srt {l : List Rf} {u : Upd} (h : Srt l) : Srt (stepG l u).1 := by
  unfold stepG
  by_cases he : errU l u ≠ 0
  · rw [if_pos he]; exact h
  · rw [if_neg he]; exact setL_srt _ _ h

/-- a map, or an error -/
def RetM (n : Nat) (r : List Rf × Int) (w : World) (e : Ending) (w' : World) : Prop :=
  ∃ mb : Option Nat, e = .returned (.tuple #[.map mb, .int .i64 r.2]) ∧ Below w.heap.size w w' ∧ (r.2 = 0 → ∃ b, mb = some b ∧ w.heap.size ≤ b ∧ w'.ownsMap Tryd.prog 9 digR b n (mapD r.1))

set_option maxHeartbeats 2000000 in
theorem replay_any (A : Option Addr) (n c B : Nat) (us : List Upd) (w : World) (h : Sl w B 5 A n (flat upC us)) (hB : B ≤ w.heap.size) (hn : n ≤ 1000) (hs : ∀ u ∈ us, u.1.size ≤ maxLen) :
    Calls Tryd.prog 36 #[.slice A n c] w (RetM n (runU [] us) w) := by
  have HL := Lib.hid (h.len upC_len (by omega))
  have H := Lib.hid h; have HS := Lib.hid hs; clear h hs
  have HR : Hid (∀ r, runU [] us = r → ∀ e w', RetM n r w e w' → RetM n (runU [] us) w e w') := fun r h e w' hh => by rw [h]; exact hh
  have hmax : 1000 < maxLen := by unfold maxLen; omega
  have hmm := @run_makeMap Tryd.prog
  go_enter Tryd.func36, Tryd.ntmps36
  go_wp2
  go_loopw [11] (fun i wr => ∃ (k : Nat) (l : List Rf), k ≤ n ∧ i = .int .i64 k ∧ Hid (wr.ownsMap Tryd.prog 9 digR w.heap.size k (mapD l)) ∧ Hid (Srt l) ∧ Hid (Below w.heap.size w wr) ∧ w.heap.size + 1 ≤ wr.heap.size ∧ Hid (runU [] us = runU l (us.drop k))) (fun i _ => n - (intOf i).toNat)
  case atStart => exact ⟨0, [], Nat.zero_le _, rfl, World.ownsMap_made w Tryd.prog 9 digR, List.Pairwise.nil, (Below.refl _ _).alloc (Nat.le_refl _) _, by simp, rfl⟩
  case round =>
    obtain ⟨k, l, hk, rfl, O, SR, hBel, hwz, hrun⟩ := hrel
    by_cases hlt : k < n
    · obtain ⟨b, off, u, rfl, hbB, hu, y0, y1, y2, y3, y4⟩ := (H.out.below hBel.out hB).upd hlt
      have HUk := Lib.hid hu
      have HUS := Lib.hid (HS.out u (List.mem_of_getElem? hu))
      clear hu
      have hst2 : Hid (runU [] us = if (stepG l u).2 ≠ 0 then stepG l u else runU (stepG l u).1 (us.drop (k + 1))) := by
        show _ = _
        have hl := List.getElem?_eq_some_iff.1 HUk.out
        rw [hrun.out, List.drop_eq_getElem_cons hl.1, hl.2, runG_step]
      obtain ⟨s, ⟨o0, o1⟩, ⟨q0, q1⟩⟩ := u
      have hlz : (k : Int) < (n : Int) := by omega
      go_wp2_with fail
      refine (stUpd_any w.heap.size k l (s, (o0, o1), (q0, q1)) _ (by first | exact O.out.alloc _ | trace_state) SR.out (by omega) HUS.out).mono ?_
      rintro e w2 ⟨rfl, hown2, hg2⟩
      have hzz : wr.heap.size ≤ w2.heap.size := by have := hg2.size; simp at this; omega
      have HO2 := Lib.hid hown2
      have HB2 : Hid (Below w.heap.size w w2) := (hBel.out.alloc (by omega) _).grown hg2 (by simp; omega) (fun k e => by cases e; exact Nat.le_refl _)
      have SR2 : Hid (Srt (stepG l (s, (o0, o1), (q0, q1))).1) := stepG_srt SR.out
      clear hown2 hg2 y0 y1 y2 y3 y4
      generalize hgg : stepG l (s, (o0, o1), (q0, q1)) = r at *
      obtain ⟨l2, x⟩ := r
      simp only at HO2 SR2 hst2 ⊢
      by_cases hx : x = 0
      · subst hx
        have hnx : Hid (runU [] us = runU l2 (us.drop (k + 1))) := by
          show _ = _
          rw [hst2.out, if_neg (by simp)]
        go_wp2
        go_roundw
        case rel => exact ⟨k + 1, l2, by omega, by go_num, HO2.out, SR2.out, HB2.out, by omega, hnx.out⟩
        case measure => simp [intOf]; omega
      · have hne : (x != 0) = true := by rw [bne_iff_ne]; exact hx
        have hfin : Hid (runU [] us = (l2, x)) := by
          show _ = _
          rw [hst2.out, if_pos hx]
        have HX := Lib.hid hx
        clear hx
        go_wp2
        go_ret2
        exact HR.out _ hfin.out _ _ ⟨none, rfl, HB2.out, fun h => absurd h HX.out⟩
    · have hfin : Hid (runU [] us = (l, 0)) := by
        show _ = _
        rw [hrun.out, List.drop_of_length_le (by rw [HL.out]; omega)]; rfl
      go_wp2
      go_ret2
      exact HR.out _ hfin.out _ _ ⟨some w.heap.size, rfl, hBel.out, fun _ => ⟨_, rfl, Nat.le_refl _, O.out.mono hk⟩⟩
end Go.Proofs.YtikmiabncbhioaaDoor
