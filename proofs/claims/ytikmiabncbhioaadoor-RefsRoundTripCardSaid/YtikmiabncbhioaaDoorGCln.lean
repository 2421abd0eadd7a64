/-
  slices.Clone of updates; refs.Check.
-/
import Derived.Test.YtikmiabncbhioaaDoorGOpn
import Derived.Laws.Cover3
namespace Go.Proofs.YtikmiabncbhioaaDoor
open Go.RowKit Go.Maps

theorem run_eql_slice_nil {P : Program} (w : World) (t e : TypeId) (a : Option Addr) (l c : Nat) (h : P.underlying t = some (.slice e)) : (binOp .eql t (.slice a l c) (.slice none 0 0)).run P w = .ok (.bool a.isNone) w := by
  simp only [binOp]
  simp [run_equal_slice_nil w t e a l c h]

def RetC (us : List Upd) (n : Nat) (w : World) (e : Ending) (w' : World) : Prop :=
  ∃ A c, e = .returned (.slice A n c) ∧ Apd w' w.heap.size 30 5 A n c (flat upC us) ∧ Below w.heap.size w w' ∧ n ≤ c ∧ c ≤ maxLen

set_option maxRecDepth 100000 in
set_option maxHeartbeats 1000000 in
theorem clone_any (A : Option Addr) (n c B : Nat) (us : List Upd) (w : World) (h : Sl w B 5 A n (flat upC us)) (hB : B ≤ w.heap.size) (hn : n ≤ 100000) :
    Calls Tryd.prog 33 #[.slice A n c] w (RetC us n w) := by
  have H := Lib.hid h; clear h
  obtain ⟨i0, hi, hz0, hz1', hz2'⟩ := info_parts info30
  have Hi := Lib.hid hi; have Hz0 := Lib.hid hz0; have Hz1 := Lib.hid hz1'; have Hz2 := Lib.hid hz2'
  clear hi hz0 hz1' hz2'
  generalize hRR : RetC us n w = RR at *
  have HRR := Lib.hid hRR; clear hRR
  cases A with
  | none =>
    have h0 : n = 0 := by
      rcases Nat.eq_zero_or_pos n with h | h
      · exact h
      · obtain ⟨b, off, e, _⟩ := H.out.2 h; cases e
    subst h0
    have hx : flat upC us = [] := by
      have := H.out.1; rw [Nat.zero_mul] at this; exact List.length_eq_zero_iff.1 this
    have hnn : ∀ w : World, (binOp .eql 23 (.slice none 0 c) (.slice none 0 0)).run Tryd.prog w = .ok (.bool true) w := fun w => run_eql_slice_nil w 23 30 none 0 c Tryd.underlying23
    go_enter Tryd.func33, Tryd.ntmps33
    go_wp2
    rw [← HRR.out]
    exact ⟨none, 0, rfl, .inr ⟨rfl, rfl, hx⟩, Below.refl _ _, Nat.le_refl _, Nat.zero_le _⟩
  | some a =>
    have hnn : ∀ w : World, (binOp .eql 23 (.slice (some a) n c) (.slice none 0 0)).run Tryd.prog w = .ok (.bool false) w := fun w => run_eql_slice_nil w 23 30 (some a) n c Tryd.underlying23
    go_enter Tryd.func33, Tryd.ntmps33
    go_wp2_with (at_builtin; refine halt_ ?_)
    refine unhalt ?_
    refine wpList_append_apd (base := w.heap.size) _ rfl (.tmp 5) (.tmp 6) 23 rfl 30 i0 _ 48 Tryd.underlying23 Hi.out Hz0.out Hz1.out Hz2.out rfl (by decide) _ 0 0 [] rfl (.inr ⟨rfl, rfl, rfl⟩) B _ n c (flat upC us) rfl (H.out.alloc hB _) (oneCells_up _) (by unfold maxLen; omega) (by omega) (by simp) ?_
    intro A2 c2 w2 ha hb hc1 hm1 hok
    rw [Nat.zero_add, List.nil_append] at ha
    rw [Nat.zero_add] at hc1 ⊢
    have HA := Lib.hid ha; have HB := Lib.hid (((Below.refl _ w).alloc (Nat.le_refl _) _).trans hb); have HM := Lib.hid hm1
    clear ha hb hok hm1
    go_wp2
    rw [← HRR.out]
    exact ⟨A2, c2, rfl, HA.out, HB.out, hc1, HM.out⟩

set_option maxRecDepth 100000 in
set_option maxHeartbeats 1000000 in
theorem check_any (A0 A1 : Option Addr) (n0 c0 n1 c1 B : Nat) (rs : List Rf) (log : List Upd) (w : World) (h0 : Sl w B 3 A0 n0 (flat rfC rs)) (h1 : Sl w B 5 A1 n1 (flat upC log)) (hB : B ≤ w.heap.size)
    (hn0 : n0 ≤ maxLen) (hn1 : n1 ≤ maxLen) (hs : ∀ u ∈ log, u.1.size ≤ maxLen) :
    Calls Tryd.prog 20 #[.agg #[.slice A0 n0 c0, .slice A1 n1 c1]] w fun e w' => e = .returned (.int .i64 (checkE rs log)) ∧ Below w.heap.size w w' := by
  have HB := Lib.hid ((Below.refl w.heap.size w).alloc (Nat.le_refl _) (.cells #[.slice A0 n0 c0, .slice A1 n1 c1] 25))
  have H := Lib.hid (open_any A0 A1 n0 c0 n1 c1 B rs log (w.alloc (.cells #[.slice A0 n0 c0, .slice A1 n1 c1] 25)) (h0.below HB.out hB) (h1.below HB.out hB) (by simp; omega) hn0 hn1 hs)
  clear h0 h1 hs hn0 hn1
  go_enter Tryd.func20, Tryd.ntmps20
  go_wp2_with fail
  refine H.out.mono ?_
  rintro e w1 ⟨mb, rfl, hb1, _⟩
  have HB1 := Lib.hid (HB.out.trans (hb1.mono (by simp)))
  clear hb1
  go_wp2_with fail
  go_ret
  exact ⟨ret_int rfl, HB1.out⟩
end Go.Proofs.YtikmiabncbhioaaDoor
