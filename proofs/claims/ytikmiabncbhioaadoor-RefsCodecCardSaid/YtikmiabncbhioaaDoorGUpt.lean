/-
  refs.Update.
-/
import Derived.Test.YtikmiabncbhioaaDoorGApp
namespace Go.Proofs.YtikmiabncbhioaaDoor
open Go.RowKit Go.Maps

theorem applyU_one (l : List Rf) (log : List Upd) (u : Upd) : applyU l log [u] = stepU l log u := by
  rw [applyU_step, applyU]
  unfold stepU
  by_cases h1 : errU l u ≠ 0
  · rw [if_pos h1, if_pos h1]
  · rw [if_neg h1]
    by_cases h2 : 1000 ≤ log.length
    · rw [if_pos h2, if_pos (by simp)]
    · rw [if_neg h2, if_neg (by simp)]
theorem applyR_one (rs : List Rf) (log : List Upd) (u : Upd) : applyR rs log [u] = updateR rs log u := by
  unfold applyR updateR
  rw [applyU_one]

set_option maxRecDepth 100000 in
set_option maxHeartbeats 1000000 in
theorem update_any (A0 A1 : Option Addr) (n0 c0 n1 c1 B : Nat) (rs : List Rf) (log : List Upd) (u : Upd) (w : World) (h0 : Sl w B 3 A0 n0 (flat rfC rs)) (h1 : Sl w B 5 A1 n1 (flat upC log)) (hB : B ≤ w.heap.size)
    (hn0 : n0 ≤ maxLen) (hn1 : n1 ≤ maxLen) (hs : u.1.size ≤ maxLen) (hs2 : ∀ u ∈ log, u.1.size ≤ maxLen) :
    Calls Tryd.prog 14 #[.agg #[.slice A0 n0 c0, .slice A1 n1 c1], updV u] w (RetR (updateR rs log u) w) := by
  have H0 := Lib.hid h0; have H1 := Lib.hid h1; clear h0 h1
  have HS := Lib.hid hs; have HS2 := Lib.hid hs2; clear hs hs2
  have HN0 := Lib.hid hn0; have HN1 := Lib.hid hn1; clear hn0 hn1
  rw [← applyR_one]
  obtain ⟨s, ⟨o0, o1⟩, ⟨q0, q1⟩⟩ := u
  show Calls Tryd.prog 14 #[.agg #[.slice A0 n0 c0, .slice A1 n1 c1], .agg #[.string s, .int .u64 o0, .int .u64 o1, .int .u64 q0, .int .u64 q1]] w _
  generalize hRR : applyR rs log [(s, (o0, o1), (q0, q1))] = r at *
  have HRR := Lib.hid hRR; clear hRR
  go_enter Tryd.func14, Tryd.ntmps14
  go_wp2_with fail
  have hbel : Below w.heap.size w ((((w.alloc (.cells #[.slice A0 n0 c0, .slice A1 n1 c1] 25)).alloc (.cells #[.string s, .int .u64 o0, .int .u64 o1, .int .u64 q0, .int .u64 q1] 30)).alloc (.cells #[.slice none 0 0, .slice none 0 0] 25)).alloc (.cells #[.string s, .int .u64 o0, .int .u64 o1, .int .u64 q0, .int .u64 q1] 30)) :=
    ((((Below.refl _ w).alloc (Nat.le_refl _) _).alloc (by simp) _).alloc (by simp; omega) _).alloc (by simp; omega) _
  have hsl := Sl.new (((w.alloc (.cells #[.slice A0 n0 c0, .slice A1 n1 c1] 25)).alloc (.cells #[.string s, .int .u64 o0, .int .u64 o1, .int .u64 q0, .int .u64 q1] 30)).alloc (.cells #[.slice none 0 0, .slice none 0 0] 25)) 30 (flat upC [(s, (o0, o1), (q0, q1))]) 1 (size := 5) rfl
  simp only [World.size_alloc] at hsl
  have hk2 : Bk ((((w.alloc (.cells #[.slice A0 n0 c0, .slice A1 n1 c1] 25)).alloc (.cells #[.string s, .int .u64 o0, .int .u64 o1, .int .u64 q0, .int .u64 q1] 30)).alloc (.cells #[.slice none 0 0, .slice none 0 0] 25)).alloc (.cells #[.string s, .int .u64 o0, .int .u64 o1, .int .u64 q0, .int .u64 q1] 30)) (w.heap.size + 1 + 1) 25 #[.slice none 0 0, .slice none 0 0] := by
    have := (Bk.new ((w.alloc (.cells #[.slice A0 n0 c0, .slice A1 n1 c1] 25)).alloc (.cells #[.string s, .int .u64 o0, .int .u64 o1, .int .u64 q0, .int .u64 q1] 30)) 25 #[.slice none 0 0, .slice none 0 0]).alloc (.cells #[.string s, .int .u64 o0, .int .u64 o1, .int .u64 q0, .int .u64 q1] 30)
    simp only [World.size_alloc] at this
    exact this
  refine (apply_any A0 A1 _ n0 c0 n1 c1 1 1 (w.heap.size + 1 + 1 + 1 + 1) rs log [(s, (o0, o1), (q0, q1))] _ ((H0.out.below hbel hB).more (by omega)) ((H1.out.below hbel hB).more (by omega)) hsl (by simp) HN0.out HN1.out (by omega) (by intro u hu; rw [List.mem_singleton.1 hu]; exact HS.out) HS2.out).mono ?_
  rintro e w1 ⟨A, m, c, A', m', c', rfl, s1, s2, s3, s4, s5, s6, hb1⟩
  rw [HRR.out] at s1 s4 ⊢
  have d2 := hk2.below hb1 (by simp)
  obtain ⟨r0, r1, f0, f1⟩ := d2.agg
  have D2 := Lib.hid d2
  have S1 := Lib.hid s1; have S3 := Lib.hid s3; have S4 := Lib.hid s4; have S6 := Lib.hid s6
  have HB2 : Hid (Below w.heap.size w w1) := hbel.trans (hb1.mono (by simp; omega))
  clear d2 s1 s3 s4 s6 hb1 hbel hsl hk2
  obtain ⟨l1, l2, x⟩ := r
  simp only at S1 S4 ⊢
  go_wp2
  exact bodyPost_ret (res_cell25 Tryd.results14 rfl (D2.out.set2 _ _) rfl) rfl ⟨A, m, c, A', m', c', rfl, (S1.out.box2 (by omega) (notSlice_rf _) D2.out _ _).more (Nat.le_of_eq (by simp)), s2, S3.out, (S4.out.box2 (by omega) (notSlice_up _) D2.out _ _).more (Nat.le_of_eq (by simp)), s5, S6.out, below_set2 HB2.out (by omega) _ _⟩
end Go.Proofs.YtikmiabncbhioaaDoor
