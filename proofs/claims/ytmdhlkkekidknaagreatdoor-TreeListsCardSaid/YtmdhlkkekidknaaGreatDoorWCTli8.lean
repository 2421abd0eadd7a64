/-
  Lemmas: The reference's lists of files with one more, or without one: Without, With, inside. Reading one file of a tree; in plain Lean. tree.data; tree.visit, handed a yield. tree.visit. The reference's visit and Load. Changes of files: Diff's answer, Patch's answer; in plain Lean. tree.store. slices.Sorted(maps.Keys(m)) at two kinds of maps.
-/
import Derived.Deep.QuietTactic
import Derived.BigQuiet
import Derived.IntWalk
import Derived.Deep.RegionHeld3
import Derived.Test.YtmdhlkkekidknaaGreatDoorWCTli7
import Derived.Test.YtmdhlkkekidknaaGreatDoorWCTli6
import Derived.Test.YtmdhlkkekidknaaGreatDoorWCTli5
import Derived.Test.YtmdhlkkekidknaaGreatDoorWCTli3
import Derived.Test.YtmdhlkkekidknaaGreatDoorWCTli4
import Derived.Test.YtmdhlkkekidknaaGreatDoorWCTli2
import Derived.Test.YtmdhlkkekidknaaGreatDoorWCTli1

namespace Go.Proofs.YtmdhlkkekidknaaGreatDoor
open Go.RowKit

theorem halt_app9 {P : Program} {ops : Array Oper} {rest : List Oper} {o : Oper} {a : Act} {w : World} {Q : Exit → Act → World → Prop} (s x : Operand) (t : TypeId) (_ : o.op = .call { callee := .builtin .append, args := #[s, x], argTypes := #[t, t] })
    (h : Hid (wpList P ops Q (o :: rest) a w)) : wpList P ops Q (o :: rest) a w := h
theorem apd_drewN {w : World} {base size n c : Nat} {e : TypeId} {A : Option Addr} {xs : List Value} (h : Apd w base e size A n c xs) (k : Nat) : Apd (w.drewN k) base e size A n c xs := h
def FlsE (l : List Fl) (w : World) (e : Ending) (w' : World) : Prop := ∃ A c, e = .returned (.slice A l.length c) ∧ Sl w' w'.heap.size 2 A l.length (flat flC l) ∧ l.length ≤ c ∧ c ≤ maxLen ∧ Below w.heap.size w w'
theorem wotF_snoc (l : List Fl) (f : Fl) (s : ByteArray) : wotF (l ++ [f]) s = if f.1 = s then wotF l s else wotF l s ++ [f] := by
  unfold wotF
  rw [List.filter_append]
  by_cases h : f.1 = s
  · rw [if_pos h]; simp [h]
  · rw [if_neg h]; simp [h]
theorem flC_one (l : List Fl) : ∀ u ∈ flat flC l, u.oneCell' = true := fun u hu => by
  unfold flat at hu
  obtain ⟨i, _, h⟩ := List.mem_flatMap.1 hu
  simp [flC] at h
  rcases h with rfl | rfl <;> rfl
set_option maxRecDepth 100000 in
set_option maxHeartbeats 4000000 in
theorem without9_any (A : Option Addr) (n c B : Nat) (l : List Fl) (s : ByteArray) (w : World) (h0 : Sl w B 2 A n (flat flC l)) (hB : B ≤ w.heap.size) (hn : n ≤ 1000000) :
    Calls Tryz.prog 67 #[.slice A n c, .string s] w (FlsE (wotF l s) w) := by
  have HL := Lib.hid (h0.len flC_len (by omega))
  have H0 := Lib.hid h0; clear h0
  obtain ⟨i0, hi, hz0, hz1, hz2⟩ := info_parts infoFlI
  have Hi := Lib.hid hi; have Hz0 := Lib.hid hz0; have Hz1 := Lib.hid hz1; have Hz2 := Lib.hid hz2
  clear hi hz0 hz1 hz2
  go_enter Tryz.func67, Tryz.ntmps67
  go_wp2_with fail
  go_loopw [5, 6] (fun q i wr => ∃ (k : Nat) (A' : Option Addr) (m c' : Nat), k ≤ n ∧ i = .int .i64 (k : Int) ∧ q = .slice A' m c' ∧ m = (wotF (l.take k) s).length ∧ m ≤ c' ∧ c' ≤ maxLen ∧ Hid (Apd wr w.heap.size 68 2 A' m c' (flat flC (wotF (l.take k) s))) ∧ Hid (Below w.heap.size w wr)) (fun _ i _ => n - (intOf i).toNat)
  case atStart => exact ⟨0, _, 0, 0, Nat.zero_le _, rfl, rfl, by rw [List.take_zero]; rfl, Nat.le_refl _, Nat.zero_le _, .inr ⟨rfl, rfl, by rw [List.take_zero]; rfl⟩, (Below.refl _ w).alloc (Nat.le_refl _) _⟩
  case round =>
    obtain ⟨k, A', m, c', hk, rfl, rfl, hm, hmc, hcm, hO, hBel⟩ := hrel
    by_cases hlt : k < n
    · have hlz : (k : Int) < (n : Int) := by omega
      obtain ⟨b, off, f, rfl, hb, hf, y0, y1⟩ := (H0.out.below hBel.out hB).fl hlt
      have HTK := Lib.hid (take_snoc hf)
      have HSN := Lib.hid (wotF_snoc (l.take k) f s)
      rw [← HTK.out] at HSN
      have HM : Hid (m = (wotF (l.take k) s).length) := hm
      have hm6 : m ≤ k := by rw [HM.out]; have := wotF_len (l.take k) s; rw [List.length_take] at this; omega
      have HO := Lib.hid hO.out; have HBE := Lib.hid hBel.out
      clear hf hm hO hBel
      obtain ⟨fp, fd⟩ := f
      simp only at y0 y1 HSN
      have t2 := str_dec fp s
      have l1 : (fp.toList != s.toList) = !(decide (fp = s)) := by rw [← str_dec]; rfl
      by_cases he : fp = s
      · have HS2 : Hid (wotF (l.take (k + 1)) s = wotF (l.take k) s) := by have := HSN.out; rw [if_pos he] at this; exact this
        rw [decide_eq_true he] at t2 l1
        clear he HSN
        go_wp2_with fail
        go_roundw
        case rel => exact ⟨k + 1, A', m, c', hlt, by go_num, rfl, by rw [HS2.out]; exact HM.out, hmc, hcm, by rw [HS2.out]; exact HO.out, HBE.out⟩
        case measure => simp [intOf]; omega
      · have HS2 : Hid (wotF (l.take (k + 1)) s = wotF (l.take k) s ++ [(fp, fd)]) := by have := HSN.out; rw [if_neg he] at this; exact this
        rw [decide_eq_false he] at t2 l1
        clear he HSN
        have zr : w.heap.size ≤ wr.heap.size := HBE.out.size
        go_wp2_with (at_builtin; refine halt_app9 (.tmp 21) (.tmp 26) 24 rfl ?_)
        refine unhalt ?_
        refine wpList_append_apd (base := w.heap.size) (size := 2) _ rfl (.tmp 21) (.tmp 26) 24 rfl 68 i0 _ 32 Tryz.underlying24 Hi.out Hz0.out Hz1.out Hz2.out rfl (by decide) A' m c' _ rfl (HO.out.below ((Below.refl _ wr).alloc (Nat.le_refl _) _)) _ (some ⟨wr.heap.size, 0, none⟩) 1 1 (flat flC [(fp, fd)]) rfl (Sl.of_bk (Bk.new wr _ _) rfl) (flC_one _) (by unfold maxLen; omega) (by omega) (by simp; omega) ?_
        intro A4 c4 w4 ha4 hb4 hn4 hm4 _
        rw [← flat_append, ← HS2.out] at ha4
        have HA4 := Lib.hid ha4
        have HB4 : Hid (Below w.heap.size w w4) := (HBE.out.alloc zr _).trans hb4
        have HN4 : Hid (m + 1 = (wotF (l.take (k + 1)) s).length) := by show _ = _; rw [HS2.out, List.length_append, ← HM.out]; rfl
        clear ha4 hb4 HO HBE y0 y1
        go_wp2_with fail
        go_roundw
        case rel => exact ⟨k + 1, A4, m + 1, c4, hlt, by go_num, rfl, HN4.out, hn4, hm4, HA4.out, HB4.out⟩
        case measure => simp [intOf]; omega
    · have hlz : ¬ (k : Int) < (n : Int) := by omega
      have HE : Hid (l.take k = l) := List.take_of_length_le (by rw [HL.out]; omega)
      have HM : Hid (m = (wotF (l.take k) s).length) := hm
      have HO := Lib.hid hO.out; have HBE := Lib.hid hBel.out
      clear hm hO hBel
      go_wp2_with fail
      go_ret
      have h1 := HO.out.sl
      have h2 := HM.out
      rw [HE.out] at h1 h2
      exact ⟨A', c', by rw [← h2]; rfl, by rw [← h2]; exact h1, by rw [← h2]; exact hmc, hcm, HBE.out⟩
set_option maxRecDepth 100000 in
set_option maxHeartbeats 8000000 in
theorem with9_any (A : Option Addr) (n c B : Nat) (l : List Fl) (f : Fl) (w : World) (h0 : Sl w B 2 A n (flat flC l)) (hB : B ≤ w.heap.size) (hn : n ≤ 1000000) (ha : AscF l) :
    Calls Tryz.prog 64 #[.slice A n c, fileV f] w (FlsE (withF l f) w) := by
  have HL := Lib.hid (h0.len flC_len (by omega))
  have HAS := Lib.hid ha
  obtain ⟨p, q⟩ := f
  unfold fileV
  obtain ⟨W, hW⟩ : ∃ W, w.alloc (.cells #[.string p, .string q] 68) = W := ⟨_, rfl⟩
  have HB0 : Hid (Below w.heap.size w W) := by rw [← hW]; exact (Below.refl _ w).alloc (Nat.le_refl _) _
  have HK : Hid (Bk W w.heap.size 68 #[.string p, .string q]) := by rw [← hW]; exact Bk.new w _ _
  have zk : w.heap.size < W.heap.size := HK.out.lt
  have H0 : Hid (Sl W B 2 A n (flat flC l)) := h0.below HB0.out hB
  clear h0 ha
  obtain ⟨i0, hi, hz0, hz1, hz2⟩ := info_parts infoFlI
  have Hi := Lib.hid hi; have Hz0 := Lib.hid hz0; have Hz1 := Lib.hid hz1; have Hz2 := Lib.hid hz2
  clear hi hz0 hz1 hz2
  go_enter Tryz.func64, Tryz.ntmps64
  go_wp2_with fail
  clear hW
  go_loopw [5, 6, 7] (fun q' u i wr => ∃ (k : Nat) (put : Bool) (out : List Fl) (A' : Option Addr) (c' : Nat), k ≤ n ∧ i = .int .i64 (k : Int) ∧ u = .bool put ∧ q' = .slice A' out.length c' ∧ out.length ≤ c' ∧ c' ≤ maxLen ∧ Hid (WithAt l (p, q) k put out) ∧ Hid (Apd wr W.heap.size 68 2 A' out.length c' (flat flC out)) ∧ Hid (Below W.heap.size W wr)) (fun _ _ i _ => n - (intOf i).toNat)
  case atStart => exact ⟨0, false, [], _, 0, Nat.zero_le _, rfl, rfl, rfl, Nat.le_refl _, Nat.zero_le _, .start _ _, .inr ⟨rfl, rfl, rfl⟩, (Below.refl _ W).alloc (Nat.le_refl _) _⟩
  case round =>
    obtain ⟨k, put, out, A', c', hk, rfl, rfl, rfl, hmc, hcm, hAt, hO, hBel⟩ := hrel
    have HO := Lib.hid hO.out; have HBE := Lib.hid hBel.out
    obtain ⟨k0, k1, _, _⟩ := (HK.out.below hBel.out zk).two
    have zr : W.heap.size ≤ wr.heap.size := HBE.out.size
    have hol : out.length ≤ k + 1 := hAt.out.len
    obtain ⟨m, hm⟩ : ∃ m, out.length = m := ⟨_, rfl⟩
    have HM := Lib.hid hm
    rw [hm] at hmc hol ⊢
    rw [hm] at HO
    clear hO hBel hm
    by_cases hlt : k < n
    · have hlz : (k : Int) < (n : Int) := by omega
      obtain ⟨b, off, f, rfl, hb, hf, y0, y1⟩ := (H0.out.below HBE.out (by omega)).fl hlt
      have HF := Lib.hid hf
      clear hf
      obtain ⟨fp, fd⟩ := f
      simp only at y0 y1
      have zb : b < wr.heap.size := by omega
      have t2 := str_dec fp p
      have l1 : (fp.toList != p.toList) = !(decide (fp = p)) := by rw [← str_dec]; rfl
      have u1 := less_str fp p
      have u2 := less_str p fp
      cases put with
      | true =>
        obtain ⟨ho, hd⟩ := hAt.out.of_true
        have HOO := Lib.hid ho; have HDD := Lib.hid hd
        clear ho hd hAt
        by_cases he : fp = p
        · subst he
          rw [decide_eq_true rfl] at t2 l1
          have HN : Hid (WithAt l (fp, q) (k + 1) true out) := WithAt.same_ HOO.out HDD.out HF.out rfl
          go_wp2_with fail
          go_quiet (fail)
          obtain ⟨wq, hwq⟩ : ∃ u, u = wr.drewN nq := ⟨_, rfl⟩
          rw [← hwq]
          replace HO : Hid (Apd wq W.heap.size 68 2 A' m c' (flat flC out)) := by rw [hwq]; exact HO.out
          replace HBE : Hid (Below W.heap.size W wq) := by rw [hwq]; exact below_drewN HBE.out _
          replace y0 : wq.cell? ⟨b, off + k * 2, none⟩ = some (.string fp) := by rw [hwq]; exact y0
          replace y1 : wq.cell? ⟨b, off + k * 2 + 1, none⟩ = some (.string fd) := by rw [hwq]; exact y1
          replace k0 : wq.cell? ⟨w.heap.size, 0, none⟩ = some (.string fp) := by rw [hwq]; exact k0
          replace k1 : wq.cell? ⟨w.heap.size, 1, none⟩ = some (.string q) := by rw [hwq]; exact k1
          replace zr : W.heap.size ≤ wq.heap.size := by rw [hwq]; exact zr
          clear hwq
          go_wp2_with fail
          go_quiet (fail)
          go_wp2_with fail
          go_roundw
          case rel => exact ⟨k + 1, true, out, A', c', hlt, by go_num, rfl, by rw [HM.out], by rw [HM.out]; exact hmc, hcm, HN.out, by rw [HM.out]; exact apd_drewN HO.out _, below_drewN HBE.out _⟩
          case measure => simp [intOf]; omega
        · have HN : Hid (WithAt l (p, q) (k + 1) true (out ++ [(fp, fd)])) := WithAt.high HOO.out HDD.out HF.out he
          rw [decide_eq_false he] at t2 l1
          clear he
          go_wp2_with fail
          go_quiet (fail)
          obtain ⟨wq, hwq⟩ : ∃ u, u = wr.drewN nq := ⟨_, rfl⟩
          rw [← hwq]
          replace HO : Hid (Apd wq W.heap.size 68 2 A' m c' (flat flC out)) := by rw [hwq]; exact HO.out
          replace HBE : Hid (Below W.heap.size W wq) := by rw [hwq]; exact below_drewN HBE.out _
          replace y0 : wq.cell? ⟨b, off + k * 2, none⟩ = some (.string fp) := by rw [hwq]; exact y0
          replace y1 : wq.cell? ⟨b, off + k * 2 + 1, none⟩ = some (.string fd) := by rw [hwq]; exact y1
          replace k0 : wq.cell? ⟨w.heap.size, 0, none⟩ = some (.string p) := by rw [hwq]; exact k0
          replace k1 : wq.cell? ⟨w.heap.size, 1, none⟩ = some (.string q) := by rw [hwq]; exact k1
          replace zr : W.heap.size ≤ wq.heap.size := by rw [hwq]; exact zr
          clear hwq
          go_wp2_with fail
          go_quiet (fail)
          go_wp2_with (at_builtin; refine halt_app9 (.tmp 39) (.tmp 44) 24 rfl ?_)
          refine unhalt ?_
          refine wpList_append_apd (base := W.heap.size) (size := 2) _ rfl (.tmp 39) (.tmp 44) 24 rfl 68 i0 _ 32 Tryz.underlying24 Hi.out Hz0.out Hz1.out Hz2.out rfl (by decide) A' m c' _ rfl (Apd.below (apd_drewN HO.out _) ((Below.refl _ _).alloc (Nat.le_refl _) _)) _ _ 1 1 (flat flC [(fp, fd)]) rfl (Sl.of_bk (n := 1) (size := 2) (Bk.new _ _ _) rfl) (flC_one _) (by unfold maxLen; omega) (by omega) (by rw [World.size_alloc]; exact Nat.le_succ_of_le zr) ?_
          intro A4 c4 w4 ha4 hb4 hn4 hm4 _
          rw [← flat_append] at ha4
          have HA4 := Lib.hid ha4
          have HB4 : Hid (Below W.heap.size W w4) := (Below.alloc (below_drewN HBE.out _) zr _).trans hb4
          clear ha4 hb4
          go_wp2_with fail
          go_roundw
          case rel => exact ⟨k + 1, true, out ++ [(fp, fd)], A4, c4, hlt, by go_num, rfl, by rw [List.length_append, HM.out]; rfl, by rw [List.length_append, HM.out]; exact hn4, hm4, HN.out, by rw [List.length_append, HM.out]; exact HA4.out, HB4.out⟩
          case measure => simp [intOf]; omega
      | false =>
        cases hl : less fp p with
        | true =>
          have he : fp ≠ p := fun e => by rw [e, lessB_irrefl] at hl; cases hl
          have HN : Hid (WithAt l (p, q) (k + 1) false (out ++ [(fp, fd)])) := WithAt.low hAt.out HF.out hl
          rw [decide_eq_false he] at t2 l1
          rw [hl] at u1
          clear he hl hAt
          go_wp2_with fail
          go_quiet (fail)
          obtain ⟨wq, hwq⟩ : ∃ u, u = wr.drewN nq := ⟨_, rfl⟩
          rw [← hwq]
          replace HO : Hid (Apd wq W.heap.size 68 2 A' m c' (flat flC out)) := by rw [hwq]; exact HO.out
          replace HBE : Hid (Below W.heap.size W wq) := by rw [hwq]; exact below_drewN HBE.out _
          replace y0 : wq.cell? ⟨b, off + k * 2, none⟩ = some (.string fp) := by rw [hwq]; exact y0
          replace y1 : wq.cell? ⟨b, off + k * 2 + 1, none⟩ = some (.string fd) := by rw [hwq]; exact y1
          replace k0 : wq.cell? ⟨w.heap.size, 0, none⟩ = some (.string p) := by rw [hwq]; exact k0
          replace k1 : wq.cell? ⟨w.heap.size, 1, none⟩ = some (.string q) := by rw [hwq]; exact k1
          replace zr : W.heap.size ≤ wq.heap.size := by rw [hwq]; exact zr
          clear hwq
          go_wp2_with fail
          go_quiet (fail)
          go_wp2_with (at_builtin; refine halt_app9 (.tmp 39) (.tmp 44) 24 rfl ?_)
          refine unhalt ?_
          refine wpList_append_apd (base := W.heap.size) (size := 2) _ rfl (.tmp 39) (.tmp 44) 24 rfl 68 i0 _ 32 Tryz.underlying24 Hi.out Hz0.out Hz1.out Hz2.out rfl (by decide) A' m c' _ rfl (Apd.below (apd_drewN HO.out _) ((Below.refl _ _).alloc (Nat.le_refl _) _)) _ _ 1 1 (flat flC [(fp, fd)]) rfl (Sl.of_bk (n := 1) (size := 2) (Bk.new _ _ _) rfl) (flC_one _) (by unfold maxLen; omega) (by omega) (by rw [World.size_alloc]; exact Nat.le_succ_of_le zr) ?_
          intro A4 c4 w4 ha4 hb4 hn4 hm4 _
          rw [← flat_append] at ha4
          have HA4 := Lib.hid ha4
          have HB4 : Hid (Below W.heap.size W w4) := (Below.alloc (below_drewN HBE.out _) zr _).trans hb4
          clear ha4 hb4
          go_wp2_with fail
          go_roundw
          case rel => exact ⟨k + 1, false, out ++ [(fp, fd)], A4, c4, hlt, by go_num, rfl, by rw [List.length_append, HM.out]; rfl, by rw [List.length_append, HM.out]; exact hn4, hm4, HN.out, by rw [List.length_append, HM.out]; exact HA4.out, HB4.out⟩
          case measure => simp [intOf]; omega
        | false =>
          obtain ⟨ho, hd⟩ := WithAt.put_ HAS.out hAt.out HF.out hl
          have HOO := Lib.hid ho; have HDD := Lib.hid hd
          rw [hl] at u1
          clear ho hd hAt hl
          go_wp2_with fail
          go_quiet (fail)
          obtain ⟨wq, hwq⟩ : ∃ u, u = wr.drewN nq := ⟨_, rfl⟩
          rw [← hwq]
          replace HO : Hid (Apd wq W.heap.size 68 2 A' m c' (flat flC out)) := by rw [hwq]; exact HO.out
          replace HBE : Hid (Below W.heap.size W wq) := by rw [hwq]; exact below_drewN HBE.out _
          replace y0 : wq.cell? ⟨b, off + k * 2, none⟩ = some (.string fp) := by rw [hwq]; exact y0
          replace y1 : wq.cell? ⟨b, off + k * 2 + 1, none⟩ = some (.string fd) := by rw [hwq]; exact y1
          replace k0 : wq.cell? ⟨w.heap.size, 0, none⟩ = some (.string p) := by rw [hwq]; exact k0
          replace k1 : wq.cell? ⟨w.heap.size, 1, none⟩ = some (.string q) := by rw [hwq]; exact k1
          replace zr : W.heap.size ≤ wq.heap.size := by rw [hwq]; exact zr
          clear hwq
          go_wp2_with (at_builtin; refine halt_app9 (.tmp 27) (.tmp 29) 24 rfl ?_)
          refine unhalt ?_
          refine wpList_append_apd (base := W.heap.size) (size := 2) _ rfl (.tmp 27) (.tmp 29) 24 rfl 68 i0 _ 32 Tryz.underlying24 Hi.out Hz0.out Hz1.out Hz2.out rfl (by decide) A' m c' _ rfl (Apd.below HO.out ((Below.refl _ _).alloc (Nat.le_refl _) _)) _ _ 1 1 (flat flC [(p, q)]) rfl (Sl.of_bk (n := 1) (size := 2) (Bk.new _ _ _) rfl) (flC_one _) (by unfold maxLen; omega) (by omega) (by rw [World.size_alloc]; exact Nat.le_succ_of_le zr) ?_
          intro A4 c4 w4 ha4 hb4 hn4 hm4 _
          rw [← flat_append] at ha4
          have HA4 := Lib.hid ha4
          have HB4 : Hid (Below W.heap.size W w4) := (Below.alloc HBE.out zr _).trans hb4
          clear ha4 hb4
          have zr4 : W.heap.size ≤ w4.heap.size := HB4.out.size
          obtain ⟨k0, k1, _, _⟩ := (HK.out.below HB4.out zk).two
          obtain ⟨b', off', f', hfe, hbB', hf', y0, y1⟩ := (H0.out.below HB4.out (by omega)).fl hlt
          cases hfe
          obtain rfl : f' = (fp, fd) := by rw [HF.out] at hf'; exact (Option.some.inj hf').symm
          simp only at y0 y1
          clear hf'
          by_cases he : fp = p
          · subst he
            rw [decide_eq_true rfl] at t2 l1
            have HN : Hid (WithAt l (fp, q) (k + 1) true (out ++ [(fp, q)])) := WithAt.same_ HOO.out HDD.out HF.out rfl
            go_wp2_with fail
            go_quiet (fail)
            go_wp2_with fail
            go_roundw
            case rel => exact ⟨k + 1, true, out ++ [(fp, q)], A4, c4, hlt, by go_num, rfl, by rw [List.length_append, HM.out]; rfl, by rw [List.length_append, HM.out]; exact hn4, hm4, HN.out, by rw [List.length_append, HM.out]; exact apd_drewN HA4.out _, below_drewN HB4.out _⟩
            case measure => simp [intOf]; omega
          · have HN : Hid (WithAt l (p, q) (k + 1) true (out ++ [(p, q)] ++ [(fp, fd)])) := WithAt.high HOO.out HDD.out HF.out he
            rw [decide_eq_false he] at t2 l1
            clear he
            go_wp2_with fail
            go_quiet (fail)
            go_wp2_with (at_builtin; refine halt_app9 (.tmp 39) (.tmp 44) 24 rfl ?_)
            refine unhalt ?_
            refine wpList_append_apd (base := W.heap.size) (size := 2) _ rfl (.tmp 39) (.tmp 44) 24 rfl 68 i0 _ 32 Tryz.underlying24 Hi.out Hz0.out Hz1.out Hz2.out rfl (by decide) A4 (m + 1) c4 _ rfl (Apd.below (apd_drewN HA4.out _) ((Below.refl _ _).alloc (Nat.le_refl _) _)) _ _ 1 1 (flat flC [(fp, fd)]) rfl (Sl.of_bk (n := 1) (size := 2) (Bk.new _ _ _) rfl) (flC_one _) (by unfold maxLen; omega) (by omega) (by rw [World.size_alloc]; exact Nat.le_succ_of_le zr4) ?_
            intro A4' c4' w4' ha4 hb4 hn4' hm4' _
            rw [← flat_append] at ha4
            have HA4' := Lib.hid ha4
            have HB4' : Hid (Below W.heap.size W w4') := (Below.alloc (below_drewN HB4.out _) zr4 _).trans hb4
            clear ha4 hb4
            go_wp2_with fail
            go_roundw
            case rel => exact ⟨k + 1, true, out ++ [(p, q)] ++ [(fp, fd)], A4', c4', hlt, by go_num, rfl, by rw [List.length_append, List.length_append, HM.out]; rfl, by rw [List.length_append, List.length_append, HM.out]; exact hn4', hm4', HN.out, by rw [List.length_append, List.length_append, HM.out]; exact HA4'.out, HB4'.out⟩
            case measure => simp [intOf]; omega
    · have hlz : ¬ (k : Int) < (n : Int) := by omega
      have hle : l.length ≤ k := by rw [HL.out]; omega
      cases put with
      | true =>
        have HN : Hid (out = withF l (p, q)) := hAt.out.done_true hle
        clear hAt
        go_wp2_with fail
        go_ret
        rw [← HN.out]
        exact ⟨A', c', by rw [HM.out]; rfl, by rw [HM.out]; exact HO.out.sl, by rw [HM.out]; exact hmc, hcm, HB0.out.trans (HBE.out.mono (Nat.le_of_lt zk))⟩
      | false =>
        have HN : Hid (out ++ [(p, q)] = withF l (p, q)) := hAt.out.done_false hle
        clear hAt
        go_wp2_with (at_builtin; refine halt_app9 (.tmp 48) (.tmp 50) 24 rfl ?_)
        refine unhalt ?_
        refine wpList_append_apd (base := W.heap.size) (size := 2) _ rfl (.tmp 48) (.tmp 50) 24 rfl 68 i0 _ 32 Tryz.underlying24 Hi.out Hz0.out Hz1.out Hz2.out rfl (by decide) A' m c' _ rfl (Apd.below HO.out ((Below.refl _ _).alloc (Nat.le_refl _) _)) _ _ 1 1 (flat flC [(p, q)]) rfl (Sl.of_bk (n := 1) (size := 2) (Bk.new _ _ _) rfl) (flC_one _) (by unfold maxLen; omega) (by omega) (by rw [World.size_alloc]; exact Nat.le_succ_of_le zr) ?_
        intro A4 c4 w4 ha4 hb4 hn4 hm4 _
        rw [← flat_append] at ha4
        have HA4 := Lib.hid ha4
        have HB4 : Hid (Below W.heap.size W w4) := (Below.alloc HBE.out zr _).trans hb4
        clear ha4 hb4
        go_wp2_with fail
        go_ret
        rw [← HN.out]
        exact ⟨A4, c4, by rw [List.length_append, HM.out]; rfl, by rw [List.length_append, HM.out]; exact HA4.out.sl, by rw [List.length_append, HM.out]; exact hn4, hm4, HB0.out.trans (HB4.out.mono (Nat.le_of_lt zk))⟩
end Go.Proofs.YtmdhlkkekidknaaGreatDoor

namespace Go.Proofs.YtmdhlkkekidknaaGreatDoor
open Go.RowKit

def entN (es : List Ent) (n : ByteArray) : Option Ent := es.find? (fun e => decide (e.nm = n))
noncomputable def datP (p : List Itm) (d : Dig) : ByteArray × Int := match getP p d with
  | none => (⟨#[]⟩, 8)
  | some o => if o.kind = 1 then (o.data, 0) else (⟨#[]⟩, 9)
noncomputable def getF (p : List Itm) : Nat → Dig → ByteArray → ByteArray × Int
  | 0, _, _ => (⟨#[]⟩, 8)
  | k + 1, d, s => match getP p d with
    | none => (⟨#[]⟩, 8)
    | some o => if o.kind = 2 then (match entN o.ents (fsN s) with
      | none => (⟨#[]⟩, 8)
      | some e => if e.dir = deN s then (if deN s = true then getF p k e.dg (rsN s) else datP p e.dg) else (⟨#[]⟩, 9)) else (⟨#[]⟩, 9)
section
variable {p : List Itm} {k : Nat} {d : Dig} {s : ByteArray}
theorem datP_none (h : getP p d = none) : datP p d = (⟨#[]⟩, 8) := by unfold datP; rw [h]
theorem datP_kind {o : Ob} (h : getP p d = some o) (hk : o.kind ≠ 1) : datP p d = (⟨#[]⟩, 9) := by unfold datP; rw [h]; simp only [if_neg hk]
theorem datP_some {o : Ob} (h : getP p d = some o) (hk : o.kind = 1) : datP p d = (o.data, 0) := by unfold datP; rw [h]; simp only [if_pos hk]
theorem getF_none (h : getP p d = none) : getF p (k + 1) d s = (⟨#[]⟩, 8) := by rw [getF, h]
theorem getF_kind {o : Ob} (h : getP p d = some o) (hk : o.kind ≠ 2) : getF p (k + 1) d s = (⟨#[]⟩, 9) := by rw [getF, h]; simp only [if_neg hk]
theorem getF_ent {o : Ob} (h : getP p d = some o) (hk : o.kind = 2) (he : entN o.ents (fsN s) = none) : getF p (k + 1) d s = (⟨#[]⟩, 8) := by rw [getF, h]; simp only [if_pos hk, he]
theorem getF_dir {o : Ob} {e : Ent} (h : getP p d = some o) (hk : o.kind = 2) (he : entN o.ents (fsN s) = some e) (hd : e.dir ≠ deN s) : getF p (k + 1) d s = (⟨#[]⟩, 9) := by rw [getF, h]; simp only [if_pos hk, he, if_neg hd]
theorem getF_sub {o : Ob} {e : Ent} (h : getP p d = some o) (hk : o.kind = 2) (he : entN o.ents (fsN s) = some e) (hd : e.dir = true) (hs : deN s = true) : getF p (k + 1) d s = getF p k e.dg (rsN s) := by
  rw [getF, h]; simp only [if_pos hk, he, hd, hs, if_true]
theorem getF_file {o : Ob} {e : Ent} (h : getP p d = some o) (hk : o.kind = 2) (he : entN o.ents (fsN s) = some e) (hd : e.dir = false) (hs : deN s = false) : getF p (k + 1) d s = datP p e.dg := by
  rw [getF, h]; simp only [if_pos hk, he, hd, hs, if_true, Bool.false_eq_true, if_false]
end
theorem entN_at {es : List Ent} {n : ByteArray} {j : Nat} {e : Ent} (h : ∀ (i : Nat) (x : Ent), i < j → es[i]? = some x → x.nm ≠ n) (hj : es[j]? = some e) (he : e.nm = n) : entN es n = some e := by
  unfold entN
  rw [← List.take_append_drop j es, List.find?_append]
  have h0 : (es.take j).find? (fun e => decide (e.nm = n)) = none := by
    rw [List.find?_eq_none]
    intro x hx
    obtain ⟨i, hi, e'⟩ := List.getElem_of_mem hx
    rw [List.length_take] at hi
    rw [List.getElem_take] at e'
    have := h i x (by omega) (by rw [← e']; exact List.getElem?_eq_getElem (by omega))
    simpa using this
  rw [h0, drop_at hj]
  simp [he]
theorem entN_no {es : List Ent} {n : ByteArray} (h : ∀ (i : Nat) (x : Ent), es[i]? = some x → x.nm ≠ n) : entN es n = none := by
  unfold entN
  rw [List.find?_eq_none]
  intro x hx
  obtain ⟨i, hi⟩ := List.mem_iff_getElem?.1 hx
  simpa using h i x hi
def jnN : List (List UInt8) → List UInt8
  | [] => []
  | [n] => n
  | n :: m :: r => n ++ 47 :: jnN (m :: r)
theorem jn_split : ∀ (k : Nat) (l : List UInt8), l.length ≤ k → jnN (splitS l) = l := by
  intro k
  induction k with
  | zero =>
    intro l hl
    have : l = [] := List.eq_nil_of_length_eq_zero (by omega)
    subst this
    rw [splitS_slash]
    simp [slashL, jnN]
  | succ k ih =>
    intro l hl
    rw [splitS_slash]
    by_cases h : slashL l < l.length
    · rw [if_pos h]
      have h1 := ih (l.drop (slashL l + 1)) (by rw [List.length_drop]; omega)
      obtain ⟨a, r, e⟩ := List.exists_cons_of_ne_nil (splitS_ne (l.drop (slashL l + 1)))
      rw [e] at h1 ⊢
      rw [jnN, h1]
      exact (slashL_dec l h).symm
    · rw [if_neg h]; rfl
noncomputable def getN (p : List Itm) (k : Nat) (d : Dig) (ns : List (List UInt8)) : ByteArray × Int := getF p k d (ub (jnN ns))
theorem nosl_ub {n : List UInt8} (h : ∀ c ∈ n, c ≠ 47) : NoSl (ub n) := by intro c hc; rw [bl_ub] at hc; exact h c hc
theorem cut_jn1 {n : List UInt8} (hn : ∀ c ∈ n, c ≠ 47) : fsN (ub (jnN [n])) = ub n ∧ deN (ub (jnN [n])) = false := by
  have := cut_no (nosl_ub hn)
  exact this
theorem cut_jn {n m : List UInt8} {r : List (List UInt8)} (hn : ∀ c ∈ n, c ≠ 47) : fsN (ub (jnN (n :: m :: r))) = ub n ∧ rsN (ub (jnN (n :: m :: r))) = ub (jnN (m :: r)) ∧ deN (ub (jnN (n :: m :: r))) = true := by
  refine cut_of ?_ (nosl_ub hn)
  rw [bl_ub, bl_ub, bl_ub]; rfl
end Go.Proofs.YtmdhlkkekidknaaGreatDoor

namespace Go.Proofs.YtmdhlkkekidknaaGreatDoor
open Go.RowKit
attribute [local go_sem] Oper.semAt_some

def DatE (p : List Itm) (d : Dig) (w : World) (e : Ending) (w' : World) : Prop := e = .returned (.tuple #[.string (datP p d).1, .int .i64 (datP p d).2]) ∧ Below w.heap.size w w'
set_option maxRecDepth 100000 in
set_option maxHeartbeats 4000000 in
theorem tdata_any (A : Option Addr) (n c B : Nat) (p : List Itm) (d : Dig) (w : World) (h0 : Sl w B 3 A n (flat itC p)) (hB : B ≤ w.heap.size) (hn : n ≤ 1000000) (hp : PlOk p) :
    Calls Tryz.prog 72 #[.slice A n c, digV d] w (DatE p d w) := by
  obtain ⟨d1, d2⟩ := d
  obtain ⟨W, hW⟩ : ∃ W, w.alloc (.cells #[.int .u64 d1, .int .u64 d2] 30) = W := ⟨_, rfl⟩
  have HB0 : Hid (Below w.heap.size w W) := by rw [← hW]; exact (Below.refl _ w).alloc (Nat.le_refl _) _
  have HC := Lib.hid (pget_any A n c B p (d1, d2) W (h0.below HB0.out hB) (Nat.le_trans hB HB0.out.size) hn hp)
  have HW := Lib.hid hW
  clear hW hp h0
  unfold GeE at HC
  simp only [digV] at HC ⊢
  go_enter Tryz.func72, Tryz.ntmps72
  go_wp2_with fail
  rw [HW.out]
  refine HC.out.mono ?_
  rintro e w2 ⟨hq, hb⟩
  have HB2 : Hid (Below w.heap.size w w2) := HB0.out.trans (hb.mono HB0.out.size)
  clear hb HC
  rcases hq with ⟨o, s, hg, _, rfl, _, _⟩ | ⟨hg, rfl⟩
  · by_cases hk : o.kind = 1
    · have HD := Lib.hid (datP_some hg hk)
      have t1 : (o.kind != 1) = false := by rw [hk]; rfl
      simp only [obV, obC]
      clear hg hk
      go_wp2_with fail
      go_ret2
      exact ⟨by rw [HD.out]; rfl, HB2.out.alloc HB2.out.size _⟩
    · have HD := Lib.hid (datP_kind hg hk)
      have t1 : (o.kind != 1) = true := by rw [bne_iff_ne]; exact hk
      simp only [obV, obC]
      clear hg hk
      go_wp2_with fail
      go_ret2
      exact ⟨by rw [HD.out]; rfl, HB2.out.alloc HB2.out.size _⟩
  · have HD := Lib.hid (datP_none hg)
    simp only [obV, obC, zOb, zOs]
    clear hg
    go_wp2_with fail
    go_ret2
    exact ⟨by rw [HD.out]; rfl, HB2.out.alloc HB2.out.size _⟩

/-! ### what is yielded -/
abbrev Vd := Fl × Int
def zF : Fl := (⟨#[]⟩, ⟨#[]⟩)
def vdA (x : Vd) : Array Value := #[.agg #[.string x.1.1, .string x.1.2, .int .i64 x.2]]
def vok (f : Fl) : Vd := (f, 0)
def vsT (z : Int) : List Vd := if z = 0 then [] else [(zF, z)]
def vsL (r : List Fl × Int) : List Vd := r.1.map vok ++ vsT r.2
theorem vsL_ok (s : List Fl) : vsL (s, 0) = s.map vok := by simp [vsL, vsT]
theorem vsL_err (s : List Fl) {z : Int} (h : z ≠ 0) : vsL (s, z) = s.map vok ++ [(zF, z)] := by simp [vsL, vsT, h]
structure KpV (B0 hz : Nat) (A B : World) : Prop where
  size : A.heap.size ≤ B.heap.size
  block : ∀ k, k < A.heap.size → (k < B0 ∨ (hz ≤ k ∧ ¬ isRow 68 A.heap[k]?)) → B.heap[k]? = A.heap[k]?
section
variable {B0 hz : Nat} {A B C : World}
theorem KpV.of_below (h : Below A.heap.size A B) : KpV B0 hz A B := ⟨h.size, fun k hk _ => h.block k hk⟩
theorem KpV.trans (h : KpV B0 hz A B) (g : KpV B0 hz B C) : KpV B0 hz A C :=
  ⟨Nat.le_trans h.size g.size, fun k hk hc => by
    have h1 := h.block k hk hc
    rw [← h1] at hc ⊢
    exact g.block k (Nat.lt_of_lt_of_le hk h.size) hc⟩
theorem KpV.refl (B0 hz : Nat) (A : World) : KpV B0 hz A A := ⟨Nat.le_refl _, fun _ _ _ => rfl⟩
theorem KpV.bk (h : KpV B0 hz A B) {b : Nat} {t : TypeId} {cs : Array Value} (hb : hz ≤ b) (ht : t ≠ 68) (hk : Bk A b t cs) : Bk B b t cs := by
  refine (h.block b hk.lt (.inr ⟨hb, ?_⟩)).trans hk
  have h1 : A.heap[b]? = some (.cells cs t (0, 0)) := hk
  rw [h1]; exact ht
theorem KpV.sl (h : KpV B0 hz A B) {B' size n : Nat} {a : Option Addr} {xs : List Value} (hs : Sl A B' size a n xs) (h1 : B' ≤ B0) (h2 : B0 ≤ A.heap.size) : Sl B B' size a n xs :=
  hs.keep fun p hp => World.cell?_of_block (h.block p.block (by omega) (.inl (by omega)))
theorem KpV.ents (h : KpV B0 hz A B) {s : Osl} {es : List Ent} (hn : NewO A hz s) (hs : Sl A A.heap.size 4 s.eA s.en (flat enC es)) : Sl B B.heap.size 4 s.eA s.en (flat enC es) ∧ NewO B hz s := by
  refine ⟨⟨hs.1, fun h0 => ?_⟩, fun a h0 ha => ?_⟩
  · obtain ⟨b, off, e1, hb, hc⟩ := hs.2 h0
    obtain ⟨h3, cur, h4⟩ := hn _ h0 e1
    have hbl : B.heap[b]? = A.heap[b]? := h.block b hb (.inr ⟨h3, by
      have h4' : A.heap[b]? = some (.cells cur 102 (0, 0)) := h4
      rw [h4']; show ¬ (102 = 68); decide⟩)
    exact ⟨b, off, e1, Nat.lt_of_lt_of_le hb h.size, fun j u hu => (World.cell?_of_block hbl).trans (hc j u hu)⟩
  · obtain ⟨b, off, e1, hb, _⟩ := hs.2 h0
    obtain ⟨h3, cur, h4⟩ := hn a h0 ha
    refine ⟨h3, cur, (h.block a.block (Array.getElem?_eq_some_iff.1 h4).1 (.inr ⟨h3, ?_⟩)).trans h4⟩
    rw [h4]; show ¬ (102 = 68); decide
end
theorem RoundIn.wide {n m : Nat} {P : Program} {l f : Nat} {tmps : Array Value} {assign body : Code} {w : World} {R : Ending → World → Prop} (h : RoundIn Fence.wide n P l f tmps assign body w R) : RoundIn Fence.wide m P l f tmps assign body w R :=
  ⟨h.1, fun c cs _ => h.2 c cs (room_wide _)⟩
def YldV (m l B0 hz : Nat) (ALL : List Vd) (J Jx : List Vd → World → Prop) : Prop :=
  ∀ (pre : List Vd) (x : Vd) (W1 : World), (∃ t, pre ++ [x] ++ t = ALL) → J pre W1 → YieldAt Fence.wide m Tryz.prog l (vdA x) W1 fun e W' =>
    (e = .returned (.bool true) ∧ J (pre ++ [x]) W' ∧ KpV B0 hz W1 W') ∨ (e = .returned (.bool false) ∧ Jx (pre ++ [x]) W')
def VisE (r : List Fl × Int) (pr0 ALL : List Vd) (B0 hz : Nat) (J Jx : List Vd → World → Prop) (W : World) (e : Ending) (W' : World) : Prop :=
  (e = .returned (.bool true) ∧ r.2 = 0 ∧ J (pr0 ++ r.1.map vok) W' ∧ KpV B0 hz W W') ∨ (e = .returned (.bool false) ∧ ((∃ q t, q ++ t = ALL ∧ Jx q W') ∨ (r.2 ≠ 0 ∧ J (pr0 ++ vsL r) W')))
def VisC (n : Nat) : Prop := ∀ (p : List Itm) (d : Dig) (pr : ByteArray) (A : Option Addr) (np cp B B0 hz l m : Nat) (ALL pr0 : List Vd) (J Jx : List Vd → World → Prop) (W : World),
    PlOk p → Sl W B 3 A np (flat itC p) → B ≤ B0 → B0 ≤ hz → hz ≤ W.heap.size → np ≤ 1000000 → pr.size ≤ 101 → 102 ≤ n + pr.size → (∃ t, pr0 ++ vsL (vis p n d pr) ++ t = ALL) →
    (∀ pre A B, J pre A → Below A.heap.size A B → J pre B) → YldV m l B0 hz ALL J Jx → J pr0 W →
    Calls Tryz.prog 108 #[.slice A np cp, digV d, .string pr, .func (.yield l) #[] #[]] W (VisE (vis p n d pr) pr0 ALL B0 hz J Jx W)
def FaiE (pr0 ALL : List Vd) (z : Int) (J Jx : List Vd → World → Prop) (e : Ending) (W' : World) : Prop := e = .returned (.bool false) ∧ ((∃ q t, q ++ t = ALL ∧ Jx q W') ∨ J (pr0 ++ [(zF, z)]) W')
set_option maxRecDepth 100000 in
set_option maxHeartbeats 1000000 in
theorem fail_any (m l B0 hz bx : Nat) (ALL pr0 : List Vd) (z : Int) (J Jx : List Vd → World → Prop) (W : World) (hk : Bk W bx 140 #[.func (.yield l) #[] #[]]) (hY : YldV m l B0 hz ALL J Jx) (hj : J pr0 W) (ht : ∃ t, pr0 ++ [(zF, z)] ++ t = ALL) :
    Calls Tryz.prog 144 #[.int .i64 z, .pointer (some ⟨bx, 0, none⟩)] W (FaiE pr0 ALL z J Jx) := by
  refine (callsIn_wide (n := 6)).1 ?_
  obtain ⟨fn, tmps, assign, body, hy, hR⟩ := hY pr0 (zF, z) W ht hj
  have HR := Lib.hid (RoundIn.wide (m := 5) hR)
  have c0 := hk.cell 0
  simp at c0
  have HT := Lib.hid ht
  simp only [vdA, zF] at hy
  clear hk hY hj hR ht
  refine callsIn_of_wp Tryz.func144 rfl trivial ?_ rfl
  simp only [Tryz.ntmps144, List.size_toArray, List.length_cons, List.length_nil, Nat.reduceAdd, Nat.reduceSub, Array.replicate_succ, Array.replicate_zero, List.push_toArray, List.append_toArray, List.nil_append, List.cons_append]
  gi_wp2
  refine HR.out.mono ?_
  rintro e W3 (⟨rfl, hJ3, _⟩ | ⟨rfl, hJ3⟩)
  · have HJ3 := Lib.hid hJ3
    clear hJ3 HR hy c0
    gi_wp2
    go_ret
    exact ⟨rfl, .inr HJ3.out⟩
  · have HJ3 := Lib.hid hJ3
    clear hJ3 HR hy c0
    gi_wp2
    go_ret
    obtain ⟨t, ht⟩ := HT.out
    exact ⟨rfl, .inl ⟨_, t, ht, HJ3.out⟩⟩
end Go.Proofs.YtmdhlkkekidknaaGreatDoor

namespace Go.Proofs.YtmdhlkkekidknaaGreatDoor
open Go.RowKit
attribute [local go_sem] Oper.semAt_some

section
variable {g : Dig → ByteArray → List Fl × Int} {p : List Itm} {pre : ByteArray} {es : List Ent} {fs gs : List Fl} {j : Nat} {e : Ent} {pr0 ALL : List Vd}
theorem vsA_err (h : VisAt g p pre es j fs) (hj : es[j]? = some e) {z : Int} (hz : vsE g p pre (e :: es.drop (j + 1)) = ([], z)) (h0 : z ≠ 0) (ha : ∃ t, pr0 ++ vsL (vsE g p pre es) ++ t = ALL) :
    (∃ t, pr0 ++ fs.map vok ++ [(zF, z)] ++ t = ALL) ∧ (vsE g p pre es).2 ≠ 0 ∧ pr0 ++ fs.map vok ++ [(zF, z)] = pr0 ++ vsL (vsE g p pre es) := by
  have e1 := h.fail hj hz
  rw [List.append_nil] at e1
  rw [e1, vsL_err _ h0] at ha
  rw [e1, vsL_err _ h0]
  obtain ⟨t, ht⟩ := ha
  exact ⟨⟨t, by rw [← ht]; simp⟩, h0, by simp⟩
theorem vsA_file (h : VisAt g p pre es j fs) (hj : es[j]? = some e) (hlt : ¬ 100 < (pre ++ e.nm).size) (hd : e.dir = false) {o : Ob} (hg : getP p e.dg = some o) (hk : o.kind = 1) (ha : ∃ t, pr0 ++ vsL (vsE g p pre es) ++ t = ALL) :
    (∃ t, pr0 ++ fs.map vok ++ [((pre ++ e.nm, o.data), 0)] ++ t = ALL) ∧ VisAt g p pre es (j + 1) (fs ++ [(pre ++ e.nm, o.data)]) := by
  have h1 := h.more hj (gs := [(pre ++ e.nm, o.data)]) (by rw [vsE_file hlt hd hg hk]; rfl)
  refine ⟨?_, h1⟩
  unfold VisAt at h1
  rw [h1] at ha
  obtain ⟨t, ht⟩ := ha
  unfold vsL at ht
  simp only [List.map_append, List.append_assoc] at ht
  exact ⟨_, by simp only [List.append_assoc]; exact ht⟩
theorem vsA_dir (h : VisAt g p pre es j fs) (hj : es[j]? = some e) (hlt : ¬ 100 < (pre ++ e.nm).size) (hd : e.dir = true) (ha : ∃ t, pr0 ++ vsL (vsE g p pre es) ++ t = ALL) :
    (∃ t, pr0 ++ fs.map vok ++ vsL (g e.dg (pre ++ e.nm ++ slB)) ++ t = ALL) ∧ ((g e.dg (pre ++ e.nm ++ slB)).2 = 0 → VisAt g p pre es (j + 1) (fs ++ (g e.dg (pre ++ e.nm ++ slB)).1)) ∧
      ((g e.dg (pre ++ e.nm ++ slB)).2 ≠ 0 → (vsE g p pre es).2 ≠ 0 ∧ pr0 ++ fs.map vok ++ vsL (g e.dg (pre ++ e.nm ++ slB)) = pr0 ++ vsL (vsE g p pre es)) := by
  obtain ⟨⟨s, z⟩, hs⟩ : ∃ r, g e.dg (pre ++ e.nm ++ slB) = r := ⟨_, rfl⟩
  rw [hs]
  by_cases hz : z = 0
  · subst hz
    have h1 := h.more hj (gs := s) (by rw [vsE_dir hlt hd hs])
    refine ⟨?_, fun _ => h1, fun h0 => absurd rfl h0⟩
    unfold VisAt at h1
    rw [h1] at ha
    obtain ⟨t, ht⟩ := ha
    unfold vsL at ht
    simp only [List.map_append, List.append_assoc] at ht
    exact ⟨_, by rw [vsL_ok]; simp only [List.append_assoc]; exact ht⟩
  · have e1 := h.fail hj (vsE_sub hlt hd hz hs)
    refine ⟨?_, fun h0 => absurd h0 hz, fun _ => ?_⟩
    · rw [e1, vsL_err _ hz] at ha
      obtain ⟨t, ht⟩ := ha
      rw [vsL_err _ hz]
      exact ⟨t, by rw [← ht]; simp⟩
    · rw [e1, vsL_err _ hz, vsL_err _ hz]
      exact ⟨hz, by simp⟩
theorem vsA_done (h : VisAt g p pre es j fs) (hj : es.length ≤ j) : (vsE g p pre es).2 = 0 ∧ fs = (vsE g p pre es).1 := by rw [h.done hj]; exact ⟨rfl, rfl⟩
end
theorem ent_ways {g : Dig → ByteArray → List Fl × Int} (p : List Itm) (pre : ByteArray) (e : Ent) (r : List Ent) (hlt : ¬ 100 < (pre ++ e.nm).size) (hd : e.dir = false) :
    (∃ o, getP p e.dg = some o ∧ o.kind = 1 ∧ datP p e.dg = (o.data, 0)) ∨ ((datP p e.dg).2 ≠ 0 ∧ vsE g p pre (e :: r) = ([], (datP p e.dg).2)) := by
  cases hg : getP p e.dg with
  | none => exact .inr ⟨by rw [datP_none hg]; simp, by rw [vsE_none hlt hd hg, datP_none hg]⟩
  | some o =>
    by_cases hk : o.kind = 1
    · exact .inl ⟨o, rfl, hk, datP_some hg hk⟩
    · exact .inr ⟨by rw [datP_kind hg hk]; simp, by rw [vsE_kind hlt hd hg hk, datP_kind hg hk]⟩
theorem str_emp {s : ByteArray} (h : s ≠ ⟨#[]⟩) : s.toList.isEmpty = false := by
  cases h1 : s.toList with
  | nil =>
    rw [ByteArray.toList_eq] at h1
    exact absurd (data_inj (t := ⟨#[]⟩) h1) h
  | cons _ _ => rfl
set_option maxRecDepth 100000 in
set_option maxHeartbeats 16000000 in
theorem visit_core (n : Nat) (ih : VisC n) : VisC (n + 1) := by
  intro p d pr A np cp B B0 hz l m ALL pr0 J Jx W hp h0 hB hB0 hzW hnp hpr hn hall hJ hY hj
  obtain ⟨d1, d2⟩ := d
  have HP := Lib.hid hp; have H0 := Lib.hid h0; have HJ := Lib.hid hJ; have HY := Lib.hid hY; have HALL := Lib.hid hall; have IH := Lib.hid ih
  have HG := Lib.hid (pget_any A np cp B p (d1, d2) ((W.alloc (.cells #[.int .u64 d1, .int .u64 d2] 30)).alloc (.cells #[.func (.yield l) #[] #[]] 140))
    (h0.below (((Below.refl _ W).alloc (Nat.le_refl _) _).alloc (by simp) _) (by omega)) (by simp; omega) hnp hp)
  have HJ1 : Hid (J pr0 ((W.alloc (.cells #[.int .u64 d1, .int .u64 d2] 30)).alloc (.cells #[.func (.yield l) #[] #[]] 140))) := hJ _ _ _ hj (((Below.refl _ W).alloc (Nat.le_refl _) _).alloc (by simp) _)
  obtain ⟨W1, hW1⟩ : ∃ W1, (W.alloc (.cells #[.int .u64 d1, .int .u64 d2] 30)).alloc (.cells #[.func (.yield l) #[] #[]] 140) = W1 := ⟨_, rfl⟩
  have HB1 : Hid (Below W.heap.size W W1) := by rw [← hW1]; exact ((Below.refl _ W).alloc (Nat.le_refl _) _).alloc (by simp) _
  have HKY : Hid (Bk W1 (W.heap.size + 1) 140 #[.func (.yield l) #[] #[]]) := by
    rw [← hW1]
    have := Bk.new (W.alloc (.cells #[.int .u64 d1, .int .u64 d2] 30)) 140 #[.func (.yield l) #[] #[]]
    rw [World.size_alloc] at this; exact this
  have z1 : W.heap.size + 2 = W1.heap.size := by rw [← hW1]; simp
  rw [hW1] at HG HJ1
  have HW1 := Lib.hid hW1
  unfold GeE at HG
  simp only [digV] at HG ⊢
  clear hp h0 hJ hY hj hall hW1 ih
  refine (callsIn_wide (n := 6)).1 ?_
  refine callsIn_of_wp Tryz.func108 rfl trivial ?_ rfl
  simp only [Tryz.ntmps108, List.size_toArray, List.length_cons, List.length_nil, Nat.reduceAdd, Nat.reduceSub, Array.replicate_succ, Array.replicate_zero, List.push_toArray, List.append_toArray, List.nil_append, List.cons_append]
  gi_wp2_with fail
  rw [HW1.out]
  refine ⟨trivial, (callsIn_wide.2 HG.out).mono ?_⟩
  rintro e w2 ⟨hq, hb⟩
  have HB2 : Hid (Below W.heap.size W w2) := HB1.out.trans (hb.mono HB1.out.size)
  have HJ2 : Hid (J pr0 w2) := HJ.out _ _ _ HJ1.out hb
  have HKY2 := Lib.hid (HKY.out.below hb HKY.out.lt)
  have z2 : W.heap.size + 2 ≤ w2.heap.size := by have := hb.size; omega
  clear hb HG HKY HJ1 HB1
  rcases hq with ⟨o, s, hg, ho, rfl, hm, hn2⟩ | ⟨hg, rfl⟩
  case inr =>
    have HV := Lib.hid (vis_none (n := n) (pre := pr) hg)
    have hALL := HALL.out
    rw [HV.out, vsL_err _ (by decide)] at hALL
    simp only [obV, obC, zOb, zOs]
    obtain ⟨W3, hW3⟩ : ∃ W3, w2.alloc (.cells #[.int .i64 0, .string ⟨#[]⟩, .slice none 0 0, .int .u64 zD.1, .int .u64 zD.2, .slice none 0 0, .string ⟨#[]⟩, .int .i64 0, .string ⟨#[]⟩] 82) = W3 := ⟨_, rfl⟩
    have HB3 : Hid (Below w2.heap.size w2 W3) := by rw [← hW3]; exact (Below.refl _ w2).alloc (Nat.le_refl _) _
    have HF := Lib.hid (fail_any m l B0 hz (W.heap.size + 1) ALL pr0 8 J Jx W3 (HKY2.out.below HB3.out (by omega)) HY.out (HJ.out _ _ _ HJ2.out HB3.out) (by simpa using hALL))
    have HW3 := Lib.hid hW3
    clear hg hALL hW3
    gi_wp2_with fail
    rw [HW3.out]
    refine ⟨trivial, (callsIn_wide.2 HF.out).mono ?_⟩
    rintro e W4 ⟨rfl, hq⟩
    have HQ := Lib.hid hq
    clear hq HF
    gi_wp2
    go_ret
    refine .inr ⟨rfl, ?_⟩
    rw [HV.out]
    rcases HQ.out with h | h
    · exact .inl h
    · exact .inr ⟨by decide, by rw [vsL_err _ (by decide)]; exact h⟩
  case inl =>
    obtain ⟨W3, hW3⟩ : ∃ W3, w2.alloc (.cells (obC o s) 82) = W3 := ⟨_, rfl⟩
    have HB3 : Hid (Below w2.heap.size w2 W3) := by rw [← hW3]; exact (Below.refl _ w2).alloc (Nat.le_refl _) _
    have HK3 : Hid (Bk W3 w2.heap.size 82 (obC o s)) := by rw [← hW3]; exact Bk.new w2 _ _
    have HE3 : Hid (Sl W3 W3.heap.size 4 s.eA s.en (flat enC o.ents)) := (hm.e.below HB3.out (Nat.le_refl _)).more HB3.out.size
    have HN3 : Hid (NewO W3 hz s) := fun a h1 h2 => by
      obtain ⟨h3, cur, h4⟩ := hn2 a h1 h2
      exact ⟨by omega, cur, (HB3.out.block a.block (Array.getElem?_eq_some_iff.1 h4).1).trans h4⟩
    have hlen : s.en ≤ maxLen := Nat.le_trans hm.ele hm.emx
    have HEL := Lib.hid hm.elen
    have HKY3 := Lib.hid (HKY2.out.below HB3.out (by omega))
    have HJ3 : Hid (J pr0 W3) := HJ.out _ _ _ HJ2.out HB3.out
    have HBW : Hid (Below W.heap.size W W3) := HB2.out.trans (HB3.out.mono HB2.out.size)
    have z3 : w2.heap.size < W3.heap.size := HK3.out.lt
    have hlen' : s.en ≤ 9223372036854775807 := by unfold maxLen at hlen; exact hlen
    simp only [obV, obC]
    have HW3 := Lib.hid hW3
    unfold obC at HW3 HK3
    clear hW3 hm hn2 HKY2 HJ2
    by_cases hk : o.kind = 2
    case neg =>
      have HV := Lib.hid (vis_kind (n := n) (pre := pr) hg hk)
      have t1 : (o.kind != 2) = true := by rw [bne_iff_ne]; exact hk
      have hALL := HALL.out
      rw [HV.out, vsL_err _ (by decide)] at hALL
      have HF := Lib.hid (fail_any m l B0 hz (W.heap.size + 1) ALL pr0 9 J Jx W3 HKY3.out HY.out HJ3.out (by simpa using hALL))
      clear hg hALL hk ho
      gi_wp2_with fail
      rw [HW3.out]
      refine ⟨trivial, (callsIn_wide.2 HF.out).mono ?_⟩
      rintro e W4 ⟨rfl, hq⟩
      have HQ := Lib.hid hq
      clear hq HF
      gi_wp2
      go_ret
      refine .inr ⟨rfl, ?_⟩
      rw [HV.out]
      rcases HQ.out with h | h
      · exact .inl h
      · exact .inr ⟨by decide, by rw [vsL_err _ (by decide)]; exact h⟩
    have t1 : (o.kind != 2) = false := by rw [hk]; rfl
    by_cases hemp : o.ents = [] ∧ pr ≠ ⟨#[]⟩
    case pos =>
      have HV := Lib.hid (vis_empty (n := n) (pre := pr) hg hk hemp.1 hemp.2)
      have hen : s.en = 0 := by rw [← HEL.out, hemp.1]; rfl
      have t2 := str_emp hemp.2
      have hALL := HALL.out
      rw [HV.out, vsL_err _ (by decide)] at hALL
      have HF := Lib.hid (fail_any m l B0 hz (W.heap.size + 1) ALL pr0 1 J Jx W3 HKY3.out HY.out HJ3.out (by simpa using hALL))
      clear hg hALL hk hemp ho
      rw [hen] at HW3 HK3 ⊢
      clear hen
      gi_wp2_with fail
      rw [HW3.out]
      refine ⟨trivial, (callsIn_wide.2 HF.out).mono ?_⟩
      rintro e W4 ⟨rfl, hq⟩
      have HQ := Lib.hid hq
      clear hq HF
      gi_wp2
      go_ret
      refine .inr ⟨rfl, ?_⟩
      rw [HV.out]
      rcases HQ.out with h | h
      · exact .inl h
      · exact .inr ⟨by decide, by rw [vsL_err _ (by decide)]; exact h⟩
    have HV := Lib.hid (vis_ents (n := n) (pre := pr) hg hk hemp)
    have HAL : Hid (∃ t, pr0 ++ vsL (vsE (vis p n) p pr o.ents) ++ t = ALL) := by have := HALL.out; rw [HV.out] at this; exact this
    have HES := Lib.hid (okO_tree ho hk)
    have hw2 : ((s.en : Int) == 0) = false ∨ (((s.en : Int) == 0) = true ∧ pr.toList.isEmpty = true) := by
      by_cases h1 : s.en = 0
      · refine .inr ⟨by rw [h1]; rfl, ?_⟩
        have h2 : o.ents = [] := List.eq_nil_of_length_eq_zero (by rw [HEL.out]; exact h1)
        by_cases h3 : pr = ⟨#[]⟩
        · rw [h3, ByteArray.toList_eq]; rfl
        · exact absurd ⟨h2, h3⟩ hemp
      · exact .inl (by rw [beq_eq_false_iff_ne]; omega)
    clear hg hemp ho hk
    have HPW : Hid (Sl W3 B 3 A np (flat itC p)) := H0.out.below HBW.out (by omega)
    have HKW : Hid (KpV B0 hz W W3) := KpV.of_below HBW.out
    obtain ⟨es, hes0⟩ : ∃ es, o.ents = es := ⟨_, rfl⟩
    rw [hes0] at HV HAL HES HE3 HEL
    clear hes0
    obtain ⟨eA, en, ec, pA, pn, pc⟩ := s
    simp only at HE3 HEL HN3 hlen' hw2 HK3 HW3 ⊢
    rcases hw2 with t2 | ⟨t2, t3⟩
    all_goals
      gi_wp2_with fail
      rw [HW3.out]
      try clear t3
      clear t2
      gi_loopw [49] (fun i wr => ∃ (j : Nat) (fs : List Fl), i = .int .i64 (j : Int) ∧ j ≤ en ∧ Hid (VisAt (vis p n) p _ es j fs) ∧ Hid (J (pr0 ++ fs.map vok) wr) ∧ Hid (KpV B0 hz W3 wr) ∧ Hid (Sl wr wr.heap.size 4 eA en (flat enC es)) ∧ Hid (NewO wr hz ⟨eA, en, ec, pA, pn, pc⟩)) (fun i _ => en - (intOf i).toNat)
      case atStart => exact ⟨0, [], rfl, Nat.zero_le _, VisAt.start _ _ _ _, (by show J _ _; simpa using HJ3.out), KpV.refl _ _ _, HE3.out, HN3.out⟩
      case round =>
        obtain ⟨j, fs, rfl, hj, hV, hJr, hKp, hSl, hNw⟩ := hrel
        have zr := hKp.out.size
        have HKr := Lib.hid (hKp.out.bk (by omega) (by decide) HKY3.out)
        have HPr := Lib.hid (hKp.out.sl HPW.out hB (by omega))
        by_cases hlt : j < en
        · obtain ⟨b, off, e, rfl, hbB, he, y0, y1, y2, y3⟩ := hSl.out.en hlt
          have hlz : (j : Int) < (en : Int) := by omega
          have HE := Lib.hid he
          have hnm := (name_len (HES.out.all e (List.mem_of_getElem? he)).nm)
          clear he
          obtain ⟨nm, dir, ⟨g1, g2⟩⟩ := e
          simp only at y0 y1 y2 y3 hnm
          obtain ⟨We, hWe⟩ : ∃ We, wr.alloc (.cells #[.string nm, .bool dir, .int .u64 g1, .int .u64 g2] 102) = We := ⟨_, rfl⟩
          have HBe : Hid (Below wr.heap.size wr We) := by rw [← hWe]; exact (Below.refl _ wr).alloc (Nat.le_refl _) _
          have HKe : Hid (Bk We wr.heap.size 102 #[.string nm, .bool dir, .int .u64 g1, .int .u64 g2]) := by rw [← hWe]; exact Bk.new wr _ _
          have HJe : Hid (J (pr0 ++ fs.map vok) We) := HJ.out _ _ _ hJr.out HBe.out
          have HKYe := Lib.hid (HKr.out.below HBe.out HKr.out.lt)
          have HPe := Lib.hid (HPr.out.below HBe.out (by omega))
          have HSe := Lib.hid ((hSl.out.below HBe.out (Nat.le_refl _)).more HBe.out.size)
          have HKPe : Hid (KpV B0 hz W3 We) := hKp.out.trans (KpV.of_below HBe.out)
          have HNe : Hid (NewO We hz ⟨some ⟨b, off, none⟩, en, ec, pA, pn, pc⟩) := ((KpV.of_below (B0 := B0) (hz := hz) HBe.out).ents hNw.out hSl.out).2
          have HWe := Lib.hid hWe
          have ze : wr.heap.size < We.heap.size := HKe.out.lt
          have hap : ¬ (9223372036854775807 < pr.size + nm.size) := by omega
          obtain ⟨path, hpath⟩ : ∃ path, pr ++ nm = path := ⟨_, rfl⟩
          have hpsz : path.size = pr.size + nm.size := by rw [← hpath]; exact ByteArray.size_append
          have yb := HKr.out.cell 0
          simp at yb
          clear hWe hKp hJr hSl hNw HKr HPr
          by_cases hfar : 100 < path.size
          · have hfz : (100 : Int) < (path.size : Int) := by omega
            have HA := Lib.hid (vsA_err hV.out HE.out (vsE_far (by rw [hpath]; exact hfar)) (by decide) HAL.out)
            obtain ⟨k0, k1, k2, k3⟩ := HKe.out.four
            have HF := Lib.hid (fail_any m l B0 hz (W.heap.size + 1) ALL (pr0 ++ fs.map vok) 4 J Jx We HKYe.out HY.out HJe.out HA.out.1)
            clear hfar
            gi_wp2_with fail
            rw [HWe.out]
            gi_wp2_with fail
            refine ⟨trivial, (callsIn_wide.2 HF.out).mono ?_⟩
            rintro e W9 ⟨rfl, hq⟩
            have HQ := Lib.hid hq
            clear hq HF
            gi_wp2
            go_ret
            refine .inr ⟨rfl, ?_⟩
            rw [HV.out]
            rcases HQ.out with h | h
            · exact .inl h
            · exact .inr ⟨HA.out.2.1, by rw [← HA.out.2.2]; exact h⟩
          have hfz : ¬ (100 : Int) < (path.size : Int) := by omega
          have hfar' : ¬ 100 < (pr ++ nm).size := by rw [hpath]; exact hfar
          obtain ⟨k0, k1, k2, k3⟩ := HKe.out.four
          have hpz : path.size ≤ 100 := by omega
          cases dir with
          | true =>
            have HD := Lib.hid (vsA_dir hV.out HE.out hfar' rfl HAL.out)
            simp only [hpath] at HD
            have hap2 : ¬ (9223372036854775807 < path.size + 1) := by omega
            obtain ⟨sub, hsub⟩ : ∃ sub, path ++ slB = sub := ⟨_, rfl⟩
            have hsub2 : path ++ ⟨#[47]⟩ = sub := hsub
            have hssz : sub.size = path.size + 1 := by rw [← hsub]; exact ByteArray.size_append
            rw [hsub] at HD
            have HC := Lib.hid (IH.out p (g1, g2) sub A np cp B B0 hz l m ALL (pr0 ++ fs.map vok) J Jx We HP.out HPe.out hB hB0 (by omega) hnp (by omega) (by omega) HD.out.1 HJ.out HY.out HJe.out)
            simp only [digV] at HC
            have y0' : (wr.alloc (.cells #[.string nm, .bool true, .int .u64 g1, .int .u64 g2] 102)).cell? ⟨W.heap.size + 1, 0, none⟩ = some (.func (.yield l) #[] #[]) := by rw [HWe.out]; exact HKYe.out.cell 0
            clear hfar hfar' hsub
            gi_wp2_with fail
            rw [HWe.out]
            gi_wp2_with fail
            refine ⟨trivial, (callsIn_wide.2 HC.out).mono ?_⟩
            rintro e W9 (⟨rfl, hr0, hJ9, hK9⟩ | ⟨rfl, hq⟩)
            · have HV9 := Lib.hid (HD.out.2.1 hr0)
              have HJ9 : Hid (J (pr0 ++ (fs ++ (vis p n (g1, g2) sub).1).map vok) W9) := by show J _ _; rw [List.map_append, ← List.append_assoc]; exact hJ9
              have HK9 : Hid (KpV B0 hz W3 W9) := HKPe.out.trans hK9
              have HS9 := Lib.hid (hK9.ents HNe.out HSe.out)
              clear hr0 hJ9 hK9 HC k0 k1 k2 k3 y0' y0 y1 y2 y3
              gi_wp2
              go_roundw
              case rel => exact ⟨j + 1, _, by go_num, hlt, HV9.out, HJ9.out, HK9.out, HS9.out.1, HS9.out.2⟩
              case measure => simp [intOf]; omega
            · have HQ := Lib.hid hq
              clear hq HC k0 k1 k2 k3 y0' y0 y1 y2 y3
              gi_wp2
              go_ret
              refine .inr ⟨rfl, ?_⟩
              rw [HV.out]
              rcases HQ.out with h | ⟨h, h2⟩
              · exact .inl h
              · obtain ⟨h3, h4⟩ := HD.out.2.2 h
                exact .inr ⟨h3, by rw [← h4]; exact h2⟩
          | false =>
            have HC := Lib.hid (tdata_any A np cp B p (g1, g2) We HPe.out (by omega) hnp HP.out)
            unfold DatE at HC
            have hway := ent_ways (g := vis p n) p pr ⟨nm, false, (g1, g2)⟩ (es.drop (j + 1)) hfar' rfl
            simp only at hway
            obtain ⟨⟨ds, dz⟩, hdd⟩ : ∃ r, datP p (g1, g2) = r := ⟨_, rfl⟩
            rw [hdd] at HC hway
            simp only [digV] at HC hway
            have hway' := Lib.hid hway
            have HFA := Lib.hid hfar'
            have HPT := Lib.hid hpath
            clear hfar hfar' hdd hway
            gi_wp2_with fail
            rw [HWe.out]
            gi_wp2_with fail
            refine ⟨trivial, (callsIn_wide.2 HC.out).mono ?_⟩
            rintro e W9 ⟨rfl, hb9⟩
            have HJ9 : Hid (J (pr0 ++ fs.map vok) W9) := HJ.out _ _ _ HJe.out hb9
            have HKY9 := Lib.hid (HKYe.out.below hb9 HKYe.out.lt)
            have HK9 : Hid (KpV B0 hz W3 W9) := HKPe.out.trans (KpV.of_below hb9)
            have HS9 := Lib.hid ((KpV.of_below (B0 := B0) (hz := hz) hb9).ents HNe.out HSe.out)
            have y9 := HKY9.out.cell 0
            simp at y9
            have z9 := hb9.size
            clear hb9 HC k0 k1 k2 k3 y0 y1 y2 y3
            rcases hway'.out with ⟨o', ho', hk', hoz⟩ | ⟨hnz, hvs⟩
            · simp only [Prod.mk.injEq] at hoz
              obtain ⟨rfl, rfl⟩ := hoz
              have HA := Lib.hid (vsA_file hV.out HE.out HFA.out rfl ho' hk' HAL.out)
              simp only [HPT.out] at HA
              obtain ⟨fn, tmps, assign, body, hy, hR⟩ := HY.out _ _ W9 HA.out.1 HJ9.out
              simp only [vdA] at hy
              have HR := Lib.hid (RoundIn.wide (m := 5) hR)
              clear hR hway' ho' hk'
              gi_wp2
              refine HR.out.mono ?_
              rintro e W10 (⟨rfl, hJ10, hK10⟩ | ⟨rfl, hJ10⟩)
              · have HJ10 : Hid (J (pr0 ++ (fs ++ [(path, o'.data)]).map vok) W10) := by show J _ _; rw [List.map_append, ← List.append_assoc]; exact hJ10
                have HK10 : Hid (KpV B0 hz W3 W10) := HK9.out.trans hK10
                have HS10 := Lib.hid (hK10.ents HS9.out.2 HS9.out.1)
                clear hJ10 hK10 HR hy y9
                gi_wp2
                go_roundw
                case rel => exact ⟨j + 1, _, by go_num, hlt, HA.out.2, HJ10.out, HK10.out, HS10.out.1, HS10.out.2⟩
                case measure => simp [intOf]; omega
              · have HJ10 := Lib.hid hJ10
                clear hJ10 HR hy y9
                gi_wp2
                go_ret
                obtain ⟨t, ht⟩ := HA.out.1
                exact .inr ⟨rfl, .inl ⟨_, t, ht, HJ10.out⟩⟩
            · have HA := Lib.hid (vsA_err hV.out HE.out hvs hnz HAL.out)
              have t3 : (dz != 0) = true := by rw [bne_iff_ne]; exact hnz
              clear hway' hnz hvs
              have HF := Lib.hid (fail_any m l B0 hz (W.heap.size + 1) ALL (pr0 ++ fs.map vok) dz J Jx W9 HKY9.out HY.out HJ9.out HA.out.1)
              gi_wp2_with fail
              refine ⟨trivial, (callsIn_wide.2 HF.out).mono ?_⟩
              rintro e W9 ⟨rfl, hq⟩
              have HQ := Lib.hid hq
              clear hq HF
              gi_wp2
              go_ret
              refine .inr ⟨rfl, ?_⟩
              rw [HV.out]
              rcases HQ.out with h | h
              · exact .inl h
              · exact .inr ⟨HA.out.2.1, by rw [← HA.out.2.2]; exact h⟩
        · have hlz : ¬ (j : Int) < (en : Int) := by omega
          have HA := Lib.hid (vsA_done hV.out (by rw [HEL.out]; omega))
          have HKF : Hid (KpV B0 hz W wr) := HKW.out.trans hKp.out
          have HJF : Hid (J (pr0 ++ (vsE (vis p n) p pr es).1.map vok) wr) := by show J _ _; rw [← HA.out.2]; exact hJr.out
          clear hKp hJr hSl hNw HKr HPr
          gi_wp2
          go_ret
          refine .inl ⟨rfl, ?_, ?_, HKF.out⟩
          · rw [HV.out]; exact HA.out.1
          · rw [HV.out]; exact HJF.out
theorem visit_all : ∀ n, VisC n
  | 0 => by
    intro p d pr A np cp B B0 hz l m ALL pr0 J Jx W hp h0 hB hB0 hzW hnp hpr hn
    omega
  | n + 1 => visit_core n (visit_all n)
end Go.Proofs.YtmdhlkkekidknaaGreatDoor

namespace Go.Proofs.YtmdhlkkekidknaaGreatDoor
open Go.RowKit

theorem sl_on9 {w w' : World} {n size : Nat} {A : Option Addr} {xs : List Value} (h : Sl w w.heap.size size A n xs) (hb : Below w.heap.size w w') : Sl w' w'.heap.size size A n xs := (h.below hb (Nat.le_refl _)).more hb.size
end Go.Proofs.YtmdhlkkekidknaaGreatDoor

namespace Go.Proofs.YtmdhlkkekidknaaGreatDoor
open Go.RowKit

structure FCh where
  path : ByteArray
  ho : Bool
  hn : Bool
  old : ByteArray
  new : ByteArray
def fcC (x : FCh) : List Value := [.string x.path, .bool x.ho, .bool x.hn, .string x.old, .string x.new]
theorem fcC_len (x : FCh) : (fcC x).length = 5 := rfl
def eB : ByteArray := ⟨#[]⟩
def isCh (x : FCh) : Prop := x.ho ≠ x.hn ∨ x.old ≠ x.new
instance (x : FCh) : Decidable (isCh x) := by unfold isCh; infer_instance
def badC (x : FCh) : Bool := (!x.ho && !x.hn) || (!x.ho && !decide (x.old = eB)) || (!x.hn && !decide (x.new = eB))
def ordC (prev : Option ByteArray) (x : FCh) : Bool := match prev with
  | none => true
  | some s => less s x.path
def ckC (l : List Fl) (prev : Option ByteArray) (x : FCh) : Int :=
  if pathB x.path = false then 6 else if badC x = true then 1 else if ordC prev x = false then 10
  else if (lookF9 l x.path).isSome ≠ x.ho ∨ (lookF9 l x.path).getD eB ≠ x.old then 17 else 0
def appC (m : List Fl) (x : FCh) : List Fl := if x.hn = true then withF m (x.path, x.new) else wotF m x.path
def patW (l : List Fl) : List Fl → Option ByteArray → List FCh → List Fl × Int
  | m, _, [] => (m, 0)
  | m, prev, x :: r => if ckC l prev x = 0 then patW l (appC m x) (some x.path) r else ([], ckC l prev x)
theorem asc_appC {m : List Fl} (h : AscF m) (x : FCh) : AscF (appC m x) := by
  unfold appC; split
  · exact asc_withF h _
  · exact asc_wotF h _
theorem appC_len (m : List Fl) (x : FCh) : (appC m x).length ≤ m.length + 1 := by
  unfold appC; split
  · exact withF_len _ _
  · have := wotF_len m x.path; omega
structure PatAt (l : List Fl) (c : List FCh) (j : Nat) (m : List Fl) : Prop where
  eq : patW l l none c = patW l m (if j = 0 then none else (c[j - 1]?).map FCh.path) (c.drop j)
  asc : AscF m
  len : m.length ≤ l.length + j
section
variable {l m : List Fl} {c : List FCh} {j : Nat} {x : FCh}
theorem PatAt.start (h : AscF l) : PatAt l c 0 l := ⟨rfl, h, Nat.le_refl _⟩
def prevC (c : List FCh) (j : Nat) : Option ByteArray := if j = 0 then none else (c[j - 1]?).map FCh.path
theorem PatAt.next (h : PatAt l c j m) (hj : c[j]? = some x) (h0 : ckC l (prevC c j) x = 0) : PatAt l c (j + 1) (appC m x) := by
  refine ⟨?_, asc_appC h.asc x, by have := h.len; have := appC_len m x; omega⟩
  rw [h.eq, drop_at hj, patW]
  have h0' : ckC l (if j = 0 then none else (c[j - 1]?).map FCh.path) x = 0 := h0
  rw [if_pos h0', if_neg (by omega), Nat.add_sub_cancel, hj]
  rfl
theorem PatAt.err (h : PatAt l c j m) (hj : c[j]? = some x) (h0 : ckC l (prevC c j) x ≠ 0) : patW l l none c = ([], ckC l (prevC c j) x) := by
  rw [h.eq, drop_at hj, patW]
  have h0' : ¬ ckC l (if j = 0 then none else (c[j - 1]?).map FCh.path) x = 0 := h0
  rw [if_neg h0']; rfl
theorem PatAt.done (h : PatAt l c j m) (hj : c.length ≤ j) : patW l l none c = (m, 0) := by rw [h.eq, List.drop_of_length_le hj, patW]
end
def PatR (l : List Fl) (c : List FCh) (m : List Fl) (err : Int) : Prop :=
  (∃ z, TckR l z ∧ z ≠ 0 ∧ err = z) ∨ (TckR l 0 ∧ (((patW l l none c).2 ≠ 0 ∧ err = (patW l l none c).2) ∨ ((patW l l none c).2 = 0 ∧ ((∃ z, TckR (patW l l none c).1 z ∧ z ≠ 0 ∧ err = z) ∨ (TckR (patW l l none c).1 0 ∧ err = 0 ∧ m = (patW l l none c).1)))))
theorem look_withF {l : List Fl} (h : AscF l) (f : Fl) (s : ByteArray) : lookF9 (withF l f) s = if s = f.1 then some f.2 else lookF9 l s := by
  have hn := asc_nodup (asc_withF h f)
  have hl := asc_nodup h
  by_cases hs : s = f.1
  · rw [if_pos hs, look9_some hn, mem_withF]; exact .inr (by rw [hs])
  · rw [if_neg hs]
    cases hk : lookF9 l s with
    | some d => rw [look9_some hn, mem_withF]; exact .inl ⟨(look9_some hl).1 hk, hs⟩
    | none =>
      rw [look9_none]
      intro g hg
      rcases mem_withF.1 hg with ⟨h1, _⟩ | rfl
      · exact look9_none.1 hk g h1
      · exact fun e => hs e.symm
theorem look_wotF {l : List Fl} (h : AscF l) (t s : ByteArray) : lookF9 (wotF l t) s = if s = t then none else lookF9 l s := by
  have hn := asc_nodup (asc_wotF h t)
  have hl := asc_nodup h
  by_cases hs : s = t
  · rw [if_pos hs, look9_none]
    intro g hg; rw [hs]; exact (mem_wotF.1 hg).2
  · rw [if_neg hs]
    cases hk : lookF9 l s with
    | some d => rw [look9_some hn, mem_wotF]; exact ⟨(look9_some hl).1 hk, hs⟩
    | none =>
      rw [look9_none]
      intro g hg
      exact look9_none.1 hk g (mem_wotF.1 hg).1
end Go.Proofs.YtmdhlkkekidknaaGreatDoor

namespace Go.Proofs.YtmdhlkkekidknaaGreatDoor
open Go.RowKit Go.Maps

theorem infoFile : (Tryz.prog.info? 68).map (fun i => (i.zero, i.size, i.bytes)) = some (some (.agg #[.string ⟨#[]⟩, .string ⟨#[]⟩]), 2, 32) := by kernel_rfl
theorem blobC_eq (s : ByteArray) : (Value.agg (blobC s)) = obV (blobO s) zOs := rfl
theorem obM_zero (w : World) (B : Nat) (s : ByteArray) : ObM w B (blobO s) zOs := ⟨Sl.nil _ _ _ _, Sl.nil _ _ _ _, Nat.le_refl _, Nat.zero_le _, Nat.le_refl _, Nat.zero_le _⟩
theorem new_file (w : World) (x y : ByteArray) : ∀ j u, [Value.string x, .string y][j]? = some u → (w.alloc (.cells #[.string x, .string y] 68)).cell? (Addr.add ⟨w.heap.size, 0, none⟩ j) = some u := by
  intro j u hj
  have hb : Bk (w.alloc (.cells #[.string x, .string y] 68)) w.heap.size 68 #[.string x, .string y] := Bk.new w _ _
  rw [Addr.add_lit, hb.cell]
  rcases j with _ | _ | j
  · simpa using hj
  · simpa using hj
  · simp at hj
theorem nod_at {l : List Fl} (h : (l.map Prod.fst).Nodup) {k : Nat} {f : Fl} (hf : l[k]? = some f) : f.1 ∉ (l.take k).map Prod.fst := by
  intro hm
  rw [List.map_take] at hm
  obtain ⟨i, hi, e⟩ := List.getElem_of_mem hm
  rw [List.length_take] at hi
  rw [List.getElem_take] at e
  obtain ⟨h1, h2⟩ := List.getElem?_eq_some_iff.1 hf
  have h3 : (l.map Prod.fst)[k]'(by simpa using h1) = f.1 := by rw [List.getElem_map, h2]
  exact List.pairwise_iff_getElem.1 h i k (by omega) (by simpa using h1) (by omega) (e.trans h3.symm)
section
variable {w w' : World} {base : Nat} {A0 A A' : Option Addr} {c0 c c' : Nat} {p q q' : List Itm}
theorem Ply.below (h : Ply w base A0 c0 p A c q) (hb : Below w.heap.size w w') : Ply w' base A0 c0 p A c q := by
  rcases h with h | h
  · exact .inl h
  · exact .inr (ownsRow_upon h hb)
theorem Ply.box (h : Ply w base A0 c0 p A c q) {b : Nat} {t : TypeId} {cs : Array Value} (hb : Bk w b t cs) (hne : 38 ≠ t) (i : Nat) (x : Value) : Ply (w.setCell ⟨b, i, none⟩ x) base A0 c0 p A c q := by
  rcases h with h | h
  · exact .inl h
  · exact .inr (ownsRow_bk h hb hne i x)
theorem Ply.others (h : Ply w base A0 c0 p A c q) {e : TypeId} (ho : OthersKept e w w') (hne : 38 ≠ e) : Ply w' base A0 c0 p A c q := by
  rcases h with h | h
  · exact .inl h
  · exact .inr (ho _ _ _ _ _ _ hne h)
theorem Ply.trans {n' : Nat} (h : Ply w base A0 c0 p A c q) (hb : Below w.heap.size w w') (k : Ply w' n' A c q A' c' q') (hn : base ≤ n') : Ply w' base A0 c0 p A' c' q' := by
  rcases k with ⟨rfl, rfl, rfl⟩ | k
  · exact h.below hb
  · exact .inr (ownsRow_low k hn)
theorem Ply.sl {B : Nat} (h : Ply w base A0 c0 p A c q) (h0 : Sl w B 3 A0 p.length (flat itC p)) (hB : B ≤ w.heap.size) : Sl w w.heap.size 3 A q.length (flat itC q) := by
  rcases h with ⟨rfl, _, rfl⟩ | h
  · exact h0.more hB
  · exact Sl.of_own h
end
def StoE (k : Nat) (l : List Fl) (A0 : Option Addr) (c0 : Nat) (p : List Itm) (w : World) (e : Ending) (w' : World) : Prop :=
  ((∃ q d A c, sto k p l = some (q, d) ∧ StoR p q d l ∧ e = .returned (.tuple #[.slice A q.length c, digV d, .int .i64 0]) ∧ Sl w' w'.heap.size 3 A q.length (flat itC q) ∧ q.length ≤ c ∧ c ≤ maxLen ∧ Ply w' w.heap.size A0 c0 p A c q) ∨ (sto k p l = none ∧ e = .returned (.tuple #[.slice none 0 0, digV zD, .int .i64 16]))) ∧ Below w.heap.size w w'
def StoC (k : Nat) : Prop := ∀ (l : List Fl), OkL l → (∀ f ∈ l, f.1.size ≤ k) → ∀ (p : List Itm) (A : Option Addr) (n c : Nat) (A1 : Option Addr) (m c1 B : Nat) (w : World),
    Sl w B 3 A n (flat itC p) → Sl w B 2 A1 m (flat flC l) → B ≤ w.heap.size → n ≤ c → c ≤ maxLen → PlOk p → n + wt l ≤ 800000 →
    Calls Tryz.prog 45 #[.slice A n c, .slice A1 m c1] w (StoE (k + 1) l A c p w)
set_option maxRecDepth 100000 in
set_option maxHeartbeats 16000000 in
theorem store_core (k : Nat) (ih : ∀ k', k = k' + 1 → StoC k') : StoC k := by
  intro l hl hlk p A n c A1 m c1 B w hp0 hl0 hB hnc hcm hpo hsz
  have HPL := Lib.hid (hp0.len itC_len (by omega))
  have HLL := Lib.hid (hl0.len flC_len (by omega))
  have HP0 := Lib.hid hp0; have HL0 := Lib.hid hl0; have HOL := Lib.hid hl; have HLK := Lib.hid hlk; have HNC := Lib.hid hnc; have HCM := Lib.hid hcm; have HPO := Lib.hid hpo; have HSZ := Lib.hid hsz
  have IH := Lib.hid ih
  have HPQ : Hid (∀ (W : World) (Ax : Option Addr) (cx : Nat) (qx : List Itm), Ply W w.heap.size A c p Ax cx qx → Below w.heap.size w W → Sl W W.heap.size 3 Ax qx.length (flat itC qx)) := fun W Ax cx qx h hb => by
    have h1 := HP0.out
    rw [← HPL.out] at h1
    exact h.sl (h1.below hb hB) (by have := hb.size; omega)
  have hm2 : m ≤ 200 := by rw [← HLL.out]; exact hl.few
  clear hp0 hl0 hl hlk hnc hcm hpo hsz ih
  have hmm := @run_makeMap Tryz.prog
  obtain ⟨W0, hW0⟩ : ∃ W, ((w.alloc (.cells #[.int .u64 0, .int .u64 0] 30)).alloc (.map #[] 0)).alloc (.map #[] 0) = W := ⟨_, rfl⟩
  have HD0 : Hid (Bk W0 w.heap.size 30 #[.int .u64 0, .int .u64 0]) := by rw [← hW0]; exact ((Bk.new w _ _).alloc _).alloc _
  have HM0 : Hid (StM W0 (w.heap.size + 1) (w.heap.size + 2) (w.heap.size + 3) 0 (fun _ => none) (fun _ => none) (l.take 0)) := by
    show StM _ _ _ _ _ _ _ []
    rw [← hW0]
    have := StM.start (w.alloc (.cells #[.int .u64 0, .int .u64 0] 30)) (w.heap.size + 3)
    rw [World.size_alloc] at this
    exact this
  have HB0 : Hid (Below w.heap.size w W0) := by rw [← hW0]; exact (((Below.refl _ w).alloc (Nat.le_refl _) _).alloc (by simp) _).alloc (by simp; omega) _
  have zW0 : w.heap.size + 3 = W0.heap.size := by rw [← hW0]; simp
  have HW0 := Lib.hid hW0
  clear hW0
  go_enter Tryz.func45, Tryz.ntmps45
  go_wp2_with fail
  rw [HW0.out]
  go_wp2_with fail
  go_loopw [26] (fun i wr => ∃ (j : Nat) (gb gf : ByteArray → Option Value), j ≤ m ∧ i = .int .i64 (j : Int) ∧ Hid (StM wr (w.heap.size + 1) (w.heap.size + 2) (w.heap.size + 3) j gb gf (l.take j)) ∧ Hid (Bk wr w.heap.size 30 #[.int .u64 0, .int .u64 0]) ∧ Hid (Below w.heap.size w wr) ∧ w.heap.size + 3 ≤ wr.heap.size) (fun i _ => m - (intOf i).toNat)
  case atStart => exact ⟨0, _, _, Nat.zero_le _, rfl, HM0.out, HD0.out, HB0.out, by omega⟩
  case round =>
    clear HM0 HD0 HB0 HW0
    obtain ⟨j, gb, gf, hj, rfl, hS, hD, hBel, hwz⟩ := hrel
    by_cases hlt : j < m
    · have hlz : (j : Int) < (m : Int) := by omega
      obtain ⟨bb, off, f, rfl, hbB, hf, y0, y1⟩ := (HL0.out.below hBel.out hB).fl hlt
      have HF := Lib.hid hf
      have hPT := HOL.out.path f (List.mem_of_getElem? hf)
      have hfs : f.1.size ≤ 100 := path_len hPT
      have hns := (name_len (path_name hPT)).2
      have HND := Lib.hid (nod_at HOL.out.nod hf)
      have HTK := Lib.hid (take_snoc hf)
      clear hf hPT
      obtain ⟨fp, fd⟩ := f
      simp only at y0 y1 hfs hns
      obtain ⟨W1, hW1⟩ : ∃ W, wr.alloc (.cells #[.string fp, .string fd] 68) = W := ⟨_, rfl⟩
      have HK1 : Hid (Bk W1 wr.heap.size 68 #[.string fp, .string fd]) := by rw [← hW1]; exact Bk.new wr _ _
      have HB1 : Hid (Below wr.heap.size wr W1) := by rw [← hW1]; exact (Below.refl _ wr).alloc (Nat.le_refl _) _
      have HC := Lib.hid (cut_any fp W1 (by unfold maxLen; omega))
      have zW1 : wr.heap.size < W1.heap.size := HK1.out.lt
      obtain ⟨x0, x1, _, _⟩ := HK1.out.two
      go_wp2_with fail
      refine HC.out.mono ?_
      rintro e w2 ⟨a, b, mo, rfl, hcr, hb2⟩
      obtain ⟨ha, hbq, hmo⟩ := cutR_eq hcr
      have HA := Lib.hid ha; have HBQ := Lib.hid hbq
      rw [← ha] at hns
      have HK2 := Lib.hid (HK1.out.below hb2 zW1)
      have HB2 : Hid (Below wr.heap.size wr w2) := HB1.out.trans (hb2.mono HB1.out.size)
      have HS2 := Lib.hid (hS.out.below HB2.out)
      have HD2 := Lib.hid (hD.out.below HB2.out (by omega))
      have HBw : Hid (Below w.heap.size w w2) := hBel.out.trans (HB2.out.mono (by omega))
      have zw2 : wr.heap.size < w2.heap.size := Nat.lt_of_lt_of_le zW1 hb2.size
      obtain ⟨x0, x1, _, _⟩ := HK2.out.two
      clear hcr ha hbq hb2 HC hW1 HK1 HB1 hS hD
      cases mo with
      | false =>
        have HDN : Hid (deN fp = false) := hmo.symm
        have HAF : Hid (a = fp) := by show _ = _; rw [HA.out, cut_flat HDN.out]
        have hsm : a.size ≤ maxLen := by unfold maxLen; omega
        clear hmo
        go_wp2_with (at_mapUpdate; refine halt_ ?_)
        refine unhalt ?_
        refine wpList_put_rm rfl _ _ _ 124 rfl 9 68 Tryz.underlying9 Tryz.underlying124 (w.heap.size + 2) j gf rfl HS2.out.f (by unfold maxLen; omega) a hsm _ rfl rfl ?_
        intro w3 hM3 hg3
        rw [HAF.out] at hM3
        have HS3 : Hid (StM w3 (w.heap.size + 1) (w.heap.size + 2) (w.heap.size + 3) (j + 1) gb (upd gf fp (fileV (fp, fd))) (l.take j ++ [(fp, fd)])) := HS2.out.file (f := (fp, fd)) (by omega) (by omega) HDN.out HND.out hM3 hg3
        have HD3 := Lib.hid (HD2.out.grown hg3 (fun e => by have := Option.some.inj e; omega))
        have HB3 : Hid (Below w.heap.size w w3) := HBw.out.grown hg3 (by omega) (fun k e => by cases e; omega)
        have z3 := hg3.size
        clear hM3 hg3 HS2 HD2
        go_wp2_with fail
        go_roundw
        case rel => exact ⟨j + 1, gb, _, hlt, by go_num, by rw [HTK.out]; exact HS3.out, HD3.out, HB3.out, by omega⟩
        case measure => simp [intOf]; omega
      | true =>
        have HDN : Hid (deN fp = true) := hmo.symm
        have hsm : a.size ≤ maxLen := by unfold maxLen; omega
        clear hmo
        have hlk : (Instr.lookup 123 (.map (some (w.heap.size + 1))) (.string a) false).run Tryz.prog w2 = .ok ((gb a).getD nilS) w2 := HS2.out.b.look Tryz.underlying9 Tryz.underlying123 (Tryz.zeroValue24 _) hsm
        obtain ⟨i0, hi, hz0, hz1, hz2⟩ := info_parts infoFile
        have Hi := Lib.hid hi; have Hz0 := Lib.hid hz0; have Hz1 := Lib.hid hz1; have Hz2 := Lib.hid hz2
        clear hi hz0 hz1 hz2
        have HIL : Hid ((inD (l.take j) a).length ≤ 200) := by have := inD_len (l.take j) a; have h2 := HOL.out.few; rw [List.length_take] at this; show _ ≤ _; omega
        go_wp2_with (at_builtin; refine halt_ ?_)
        refine unhalt ?_
        refine wpList_append_lies _ rfl (.tmp 42) (.tmp 47) 24 rfl (w.heap.size + 3) 68 i0 _ 2 32 Tryz.underlying24 Hi.out Hz0.out Hz1.out Hz2.out rfl (by decide) ((gb a).getD nilS) (inD (l.take j) a).length (flat flC (inD (l.take j) a)) rfl ?own _ 1 _ [.string b, .string fd] rfl rfl ?nw (by simp [Value.oneCell']) (by decide) ?l1 ?l2 ?l3 _ rfl ?_
        case own => exact (HS2.out.alloc _).rows.own a
        case nw => exact new_file w2 b fd
        case l1 => have := HIL.out; unfold maxLen; omega
        case l2 => have := HIL.out; omega
        case l3 => simp; omega
        intro g cap w4 ho hg hat hgl
        have HO := Lib.hid ho; have HG := Lib.hid hg; have HAT := Lib.hid hat
        have hrow : Hid (∀ k, ((gb a).getD nilS).ownBlock = some k → w.heap.size + 3 ≤ k) := fun k e => ((HS2.out.rows.own a).lt k e).1
        have hz4 := hg.size
        rw [World.size_alloc] at hz4
        clear ho hg hat hgl hlk
        go_wp2_with (at_mapUpdate; refine halt_ ?_)
        refine unhalt ?_
        refine wpList_put_rm rfl _ _ _ 123 rfl 9 24 Tryz.underlying9 Tryz.underlying123 (w.heap.size + 1) j gb rfl ((HS2.out.alloc _).b.kept HG.out (fun e => by have := hrow.out _ e.symm; omega)) (by unfold maxLen; omega) a hsm _ rfl rfl ?_
        intro w5 hM5 hg5
        have HS5 : Hid (StM w5 (w.heap.size + 1) (w.heap.size + 2) (w.heap.size + 3) (j + 1) (upd gb (fsN fp) (.slice (some ⟨g, 0, none⟩) ((inD (l.take j) (fsN fp)).length + 1) cap)) gf (l.take j ++ [(fp, fd)])) := by
          have h1 := HO.out; have h2 := HG.out; have h3 := HAT.out
          have h4 : Rm w5 Tryz.prog 9 (w.heap.size + 1) (j + 1) (upd gb a (.slice (some ⟨g, 0, none⟩) ((inD (l.take j) a).length + 1) cap)) := hM5
          rw [HA.out] at h1 h2 h3 h4
          rw [HBQ.out] at h1
          exact (HS2.out.alloc _).dir (f := (fp, fd)) (by omega) HDN.out HND.out h1 h2 h3 h4 hg5
        have HB5 : Hid (Below w.heap.size w w5) := ((HBw.out.alloc (by omega) _).grown HG.out (by simp; omega) (fun k e => by have := hrow.out _ e; omega)).grown hg5 (by omega) (fun k e => by cases e; omega)
        have HD5 := Lib.hid (((HD2.out.alloc _).grown HG.out (fun e => by have := hrow.out _ e.symm; omega)).grown hg5 (fun e => by have := Option.some.inj e; omega))
        have hz5 : w.heap.size + 3 ≤ w5.heap.size := by have := hg5.size; omega
        clear hM5 hg5 HO HG HAT HS2 HD2 hrow
        go_wp2_with fail
        go_roundw
        case rel => exact ⟨j + 1, _, gf, hlt, by go_num, by rw [HTK.out]; exact HS5.out, HD5.out, HB5.out, hz5⟩
        case measure => simp [intOf]; omega
    · have hlz : ¬ (j : Int) < (m : Int) := by omega
      have hjm : j = m := by omega
      have HS1 : Hid (StM wr (w.heap.size + 1) (w.heap.size + 2) (w.heap.size + 3) m gb gf l) := by
        have := hS.out
        rw [hjm, List.take_of_length_le (by rw [HLL.out]; exact Nat.le_refl _)] at this
        exact this
      obtain ⟨wo, hwo⟩ : ∃ wo, wo = wr := ⟨_, rfl⟩
      subst hwo
      obtain ⟨W3, hW3⟩ : ∃ W, wo.alloc (.cells #[.map (some (w.heap.size + 2))] 124) = W := ⟨_, rfl⟩
      have HK3 : Hid (Bk W3 wo.heap.size 124 #[.map (some (w.heap.size + 2))]) := by rw [← hW3]; exact Bk.new wo _ _
      have HB3 : Hid (Below wo.heap.size wo W3) := by rw [← hW3]; exact (Below.refl _ wo).alloc (Nat.le_refl _) _
      have HC3 := Lib.hid (collF_any wo.heap.size (w.heap.size + 2) m gf W3 (HS1.out.f.below HB3.out HS1.out.f.lt) (HK3.out.cell 0) HK3.out.lt (by omega))
      have HKF := Lib.hid (keysF_any (w.heap.size + 2) wo)
      have z3 : wo.heap.size + 1 = W3.heap.size := by rw [← hW3]; simp
      rw [hW3] at HKF
      clear hS hW3
      go_wp2_with fail
      refine HKF.out.mono ?_
      rintro e w' ⟨rfl, hw'⟩
      have hw2 := hw'.symm
      clear hw'
      subst hw2
      go_wp2_with fail
      refine HC3.out.mono ?_
      rintro e w4 ⟨A4, c4, ks, rfl, hk4, hr4, hb4⟩
      have HK4 := Lib.hid hk4; have HR4 := Lib.hid hr4; have HB4 := Lib.hid hb4
      have HBo4 : Hid (Below wo.heap.size wo w4) := HB3.out.trans (hb4.mono HB3.out.size)
      have z4 : W3.heap.size ≤ w4.heap.size := hb4.size
      clear hk4 hr4 hb4 HC3 HKF
      obtain ⟨W5, hW5⟩ : ∃ W, w4.alloc (.cells #[.map (some (w.heap.size + 1))] 123) = W := ⟨_, rfl⟩
      have HK5 : Hid (Bk W5 w4.heap.size 123 #[.map (some (w.heap.size + 1))]) := by rw [← hW5]; exact Bk.new w4 _ _
      have HB5 : Hid (Below w4.heap.size w4 W5) := by rw [← hW5]; exact (Below.refl _ w4).alloc (Nat.le_refl _) _
      have HBo5 : Hid (Below wo.heap.size wo W5) := HBo4.out.trans (HB5.out.mono HBo4.out.size)
      have HR5 : Hid (W5.ownsRow W3.heap.size 9 1 (.slice A4 ks.length c4) ks.length (strs ks)) := by
        rw [← hW5]
        exact HR4.out.kept (World.grownBy_alloc w4 _ none) (by cases hv : (Value.slice A4 ks.length c4).ownBlock with | none => exact .inl rfl | some k => exact .inr (by simp))
      have HC5 := Lib.hid (apsB_any w4.heap.size (w.heap.size + 1) m gb A4 ks.length c4 ks W3 W5 (HS1.out.b.below HBo5.out HS1.out.b.lt) (HK5.out.cell 0) HK5.out.lt HR5.out (HB4.out.trans (HB5.out.mono z4)) (by have := HK4.out.few; omega))
      have HKB := Lib.hid (keysB_any (w.heap.size + 1) w4)
      rw [hW5] at HKB
      clear hW5
      go_wp2_with fail
      refine HKB.out.mono ?_
      rintro e w' ⟨rfl, hw'⟩
      have hw2 := hw'.symm
      clear hw'
      subst hw2
      go_wp2_with fail
      refine HC5.out.mono ?_
      rintro e w6 ⟨A6, c6, qs, rfl, hq6, hr6, hb6⟩
      have HNE := Lib.hid (names_eq HOL.out HS1.out.gbs HS1.out.gfs HK4.out hq6)
      have hnl : ks.length + qs.length ≤ 400 := by have := HK4.out.few; have := hq6.few; omega
      have HSO := Lib.hid (sort_any W3.heap.size (ks.length + qs.length) c6 A6 (ks ++ qs) w6 hr6 (by omega))
      have HB6 := Lib.hid hb6
      have HRG : Hid (∀ k, (Value.slice A6 (ks.length + qs.length) c6).ownBlock = some k → W3.heap.size ≤ k) := fun k hk => (own_row hr6 hk).1
      clear hr6 hq6 hb6 HC5 HKB HK4 HR4 HR5
      go_wp2_with fail
      refine HSO.out.mono ?_
      rintro e w7 ⟨rfl, hs7, hg7⟩
      have HB7 : Hid (Below W3.heap.size W3 w7) := HB6.out.grown hg7 HB6.out.size (fun k e => HRG.out k e)
      have HS7 : Hid (Sl w7 w7.heap.size 1 A6 (ks.length + qs.length) (strs (nmsP l))) := by
        have := Sl.of_own hs7
        rw [HNE.out.1] at this
        exact this
      have HBo7 : Hid (Below wo.heap.size wo w7) := HB3.out.trans (HB7.out.mono HB3.out.size)
      have HSM7 := Lib.hid (HS1.out.below HBo7.out)
      have HD7 := Lib.hid (hD.out.below HBo7.out (by omega))
      have HBw7 : Hid (Below w.heap.size w w7) := hBel.out.trans (HBo7.out.mono (by omega))
      obtain ⟨nn, hnn⟩ : ∃ nn, ks.length + qs.length = nn := ⟨_, rfl⟩
      rw [hnn] at HS7 hnl
      have HNL : Hid ((nmsP l).length = nn) := by have := HS7.out.1; rw [strs_len] at this; show _ = _; omega
      have z7 : w.heap.size + 3 ≤ w7.heap.size := by have := HBo7.out.size; omega
      clear hs7 hg7 HRG HB6 HSO HB7 HBo7 HS1 hD hBel HB3 HK3 HB4 HBo4 HK5 HB5 HBo5
      obtain ⟨W8, hW8⟩ : ∃ W, w7.alloc (.cells #[.int .i64 2, .string ⟨#[]⟩, .slice none 0 0, .int .u64 0, .int .u64 0, .slice none 0 0, .string ⟨#[]⟩, .int .i64 0, .string ⟨#[]⟩] 82) = W := ⟨_, rfl⟩
      have HW8 := Lib.hid hW8
      clear hW8
      go_wp2_with fail
      have HO8 : Hid (Bk W8 w7.heap.size 82 #[.int .i64 2, .string ⟨#[]⟩, .slice none 0 0, .int .u64 0, .int .u64 0, .slice none 0 0, .string ⟨#[]⟩, .int .i64 0, .string ⟨#[]⟩]) := by rw [← HW8.out]; exact Bk.new w7 _ _
      have HB8 : Hid (Below w7.heap.size w7 W8) := by rw [← HW8.out]; exact (Below.refl _ w7).alloc (Nat.le_refl _) _
      have z8 : w7.heap.size + 1 = W8.heap.size := by rw [← HW8.out]; simp
      rw [HW8.out]
      clear HW8
      obtain ⟨i0, hi, hz0, hz1, hz2⟩ := info_parts infoEnt
      have Hi := Lib.hid hi; have Hz0 := Lib.hid hz0; have Hz1 := Lib.hid hz1; have Hz2 := Lib.hid hz2
      clear hi hz0 hz1 hz2
      go_loopw [0, 65] (fun pv i wr => ∃ (j : Nat) (q : List Itm) (es : List Ent) (Aq : Option Addr) (cq : Nat) (EA : Option Addr) (ec : Nat), pv = .slice Aq q.length cq ∧ i = .int .i64 (j : Int) ∧ j ≤ nn ∧ Hid (StoAt k l p j q es) ∧ Hid (Ply wr w.heap.size A c p Aq cq q) ∧ q.length ≤ cq ∧ cq ≤ maxLen ∧
        Hid (Apd wr (w7.heap.size + 1) 102 4 EA j ec (flat enC es)) ∧ j ≤ ec ∧ ec ≤ maxLen ∧ Hid (Bk wr w7.heap.size 82 #[.int .i64 2, .string ⟨#[]⟩, .slice EA j ec, .int .u64 0, .int .u64 0, .slice none 0 0, .string ⟨#[]⟩, .int .i64 0, .string ⟨#[]⟩]) ∧ Hid (Below w7.heap.size w7 wr) ∧ w7.heap.size + 1 ≤ wr.heap.size) (fun _ i _ => nn - (intOf i).toNat)
      case atStart => exact ⟨0, p, [], A, c, none, 0, by rw [HPL.out], rfl, Nat.zero_le _, StoAt.start HPO.out, .inl ⟨rfl, rfl, rfl⟩, by rw [HPL.out]; exact HNC.out, HCM.out, .inr ⟨rfl, rfl, rfl⟩, Nat.le_refl _, Nat.zero_le _, HO8.out, HB8.out, by omega⟩
      case round =>
        clear HO8 HB8
        obtain ⟨j, q, es, Aq, cq, EA, ec, rfl, rfl, hj, hSt, hPly, hqc, hcq, hAp, hje, hec, hOB, hBel, hwz⟩ := hrel
        by_cases hlt : j < nn
        · have hlz : (j : Int) < (nn : Int) := by omega
          obtain ⟨nb, noff, x, rfl, hnb, hx, y0⟩ := (HS7.out.below hBel.out (Nat.le_refl _)).str_at hlt
          have HX := Lib.hid hx
          have hxn := (name_len (nm_ok HOL.out hx)).2
          have hxd := HNE.out.2 x (List.mem_of_getElem? hx)
          clear hx
          obtain ⟨We, hWe⟩ : ∃ W, wr.alloc (.cells #[.string x, .bool false, .int .u64 0, .int .u64 0] 102) = W := ⟨_, rfl⟩
          have HEe : Hid (Bk We wr.heap.size 102 #[.string x, .bool false, .int .u64 0, .int .u64 0]) := by rw [← hWe]; exact Bk.new wr _ _
          have HBe : Hid (Below wr.heap.size wr We) := by rw [← hWe]; exact (Below.refl _ wr).alloc (Nat.le_refl _) _
          have ze : wr.heap.size + 1 = We.heap.size := by rw [← hWe]; simp
          have HSMe := Lib.hid (HSM7.out.below (hBel.out.trans (HBe.out.mono (by omega))))
          have hsm : x.size ≤ maxLen := by unfold maxLen; omega
          have hlk : (Instr.lookup 124 (.map (some (w.heap.size + 1 + 1))) (.string x) true).run Tryz.prog (wr.alloc (.cells #[.string x, .bool false, .int .u64 0, .int .u64 0] 102)) = .ok (.tuple #[(gf x).getD (.agg #[.string ⟨#[]⟩, .string ⟨#[]⟩]), .bool (gf x).isSome]) (wr.alloc (.cells #[.string x, .bool false, .int .u64 0, .int .u64 0] 102)) := by
            rw [hWe]
            exact HSMe.out.f.look_ok Tryz.underlying9 Tryz.underlying124 (Tryz.zeroValue68 _) hsm
          have hgf := HSMe.out.gfs x
          rw [hxd] at hgf
          have HPLN : Hid (q.length ≤ 800000) := by have h1 := hSt.out.plen; have h2 := HSZ.out; rw [← HPL.out] at h2; show _ ≤ _; omega
          have HPC0 := Lib.hid hPly
          have HWe := Lib.hid hWe
          clear hWe
          cases hlf : lookF9 l x with
          | some s =>
            have HLF := Lib.hid hlf
            rw [hlf] at hgf
            simp only [Bool.false_eq_true, if_false, Option.map_some] at hgf
            rw [hgf] at hlk
            simp only [Option.getD_some, Option.isSome_some, fileV] at hlk
            clear hgf hlf
            have hsd := HOL.out.data _ ((look9_some HOL.out.nod).1 HLF.out)
            simp only at hsd
            obtain ⟨W9, hW9⟩ : ∃ W, We.alloc (.cells #[.string x, .string s] 68) = W := ⟨_, rfl⟩
            have HE9 : Hid (Bk W9 wr.heap.size 102 #[.string x, .bool false, .int .u64 0, .int .u64 0]) := by rw [← hW9]; exact HEe.out.alloc _
            have HB9 : Hid (Below wr.heap.size wr W9) := by rw [← hW9]; exact HBe.out.alloc HBe.out.size _
            have HF9 : Hid (Bk W9 We.heap.size 68 #[.string x, .string s]) := by rw [← hW9]; exact Bk.new We _ _
            have z9 : We.heap.size + 1 = W9.heap.size := by rw [← hW9]; simp
            have HW9 := Lib.hid hW9
            have HBL := Lib.hid (blob_any s W9)
            clear hW9
            go_wp2_with fail
            rw [HWe.out, HW9.out]
            refine HBL.out.mono ?_
            rintro e w10 ⟨rfl, hb10⟩
            have HE10 := Lib.hid (HE9.out.below hb10 (by omega))
            have HB10 : Hid (Below wr.heap.size wr w10) := HB9.out.trans (hb10.mono HB9.out.size)
            have z10 : W9.heap.size ≤ w10.heap.size := hb10.size
            clear hb10 HBL HE9 HB9 HF9 HW9 HWe HEe HBe
            obtain ⟨⟨d1, d2⟩, hdd⟩ : ∃ d, dgO (blobO s) = d := ⟨_, rfl⟩
            have HPC := Lib.hid (pput_any Aq q.length cq w10.heap.size q (blobO s) zOs w10 (HPQ.out _ _ _ _ (hPly.out.below HB10.out) (HBw7.out.trans ((hBel.out.mono (by omega)).trans (HB10.out.mono (by omega))))) (obM_zero _ _ _) (Nat.le_refl _) hqc hcq (by have := HPLN.out; omega) hSt.out.ok.asc (okO_blob hsd))
            unfold PuE at HPC
            rw [hdd] at HPC
            simp only [digV, ← blobC_eq] at HPC
            have HDD := Lib.hid hdd
            clear hdd
            go_wp2_with fail
            refine HPC.out.mono ?_
            rintro e w11 ⟨hq, hb11⟩
            have HE11 := Lib.hid (HE10.out.below hb11 (by omega))
            have HB11 : Hid (Below wr.heap.size wr w11) := HB10.out.trans (hb11.mono HB10.out.size)
            have z11 : w10.heap.size ≤ w11.heap.size := hb11.size
            clear hb11 HE10 HB10
            rcases hq with ⟨q2, A2, c2, hz, rfl, hs11, hc2, hm2', hy⟩ | ⟨hz, rfl⟩
            · have HZ := Lib.hid hz; have HY := Lib.hid hy
              have HST := Lib.hid ((by have h9 := hSt.out.file HOL.out HX.out HLF.out HZ.out; rw [HDD.out] at h9; exact h9 : StoAt k l p (j + 1) q2 (es ++ [⟨x, false, (d1, d2)⟩])))
              clear hz hy hs11 HPC
              obtain ⟨W12, hW12⟩ : ∃ W, (w11.setCell ⟨wr.heap.size, 2, none⟩ (.int .u64 d1)).setCell ⟨wr.heap.size, 3, none⟩ (.int .u64 d2) = W := ⟨_, rfl⟩
              have HE12 : Hid (Bk W12 wr.heap.size 102 #[.string x, .bool false, .int .u64 d1, .int .u64 d2]) := by rw [← hW12]; exact (HE11.out.set 2 (.int .u64 d1)).set 3 (.int .u64 d2)
              have HB12 : Hid (Below wr.heap.size wr W12) := by rw [← hW12]; exact (HB11.out.setCell (p := ⟨wr.heap.size, 2, none⟩) (Nat.le_refl _) _).setCell (p := ⟨wr.heap.size, 3, none⟩) (Nat.le_refl _) _
              have HY12 : Hid (Ply W12 w.heap.size A c p A2 c2 q2) := by
                rw [← hW12]
                exact ((hPly.out.trans HB11.out HY.out (by omega)).box HE11.out (by decide) 2 _).box (HE11.out.set 2 (.int .u64 d1)) (by decide) 3 _
              have z12 : wr.heap.size < W12.heap.size := by rw [← hW12]; simp; omega
              have HO12 := Lib.hid (hOB.out.below HB12.out (by omega))
              have HA12 := Lib.hid (hAp.out.below HB12.out)
              have f2 := HE11.out.free 2; have f3 := HE11.out.free 3
              have u2 := HE11.out.cell 2; have u3 := HE11.out.cell 3
              simp at u2 u3
              obtain ⟨v0, v1, v2, v3⟩ := HE12.out.four
              obtain ⟨o0, o1, o2, o3, o4, o5, o6, o7, o8⟩ := HO12.out.nine
              go_wp2_with (at_builtin; refine halt_ ?_)
              refine unhalt ?_
              refine wpList_append_apd (base := w7.heap.size + 1) (size := 4) _ rfl (.tmp 104) (.tmp 106) 79 rfl 102 i0 _ 40 Tryz.underlying79 Hi.out Hz0.out Hz1.out Hz2.out rfl (by decide) EA j ec (flat enC es) rfl ?own_1 (W12.heap.size + 1) _ 1 _ (enC ⟨x, false, (d1, d2)⟩) rfl ?nw_1 (by simp [enC, Value.oneCell']) ?m1_1 ?m2_1 ?m3_1 ?_
              case own_1 => exact HA12.out.below ((Below.refl _ W12).alloc (Nat.le_refl _) _)
              case nw_1 =>
                have := Sl.of_bk (n := 1) (size := 4) (Bk.new W12 102 #[.string x, .bool false, .int .u64 d1, .int .u64 d2]) rfl
                rw [World.size_alloc] at this; exact this
              case m1_1 => unfold maxLen; omega
              case m2_1 => omega
              case m3_1 => simp; omega
              intro A4 c4 w13 ha4 hb4 hn4 hm4 hok4
              have HA13 : Hid (Apd w13 (w7.heap.size + 1) 102 4 A4 (j + 1) c4 (flat enC (es ++ [⟨x, false, (d1, d2)⟩]))) := by
                show Apd _ _ _ _ _ _ _ _
                rw [flat_append]
                simpa [flat] using ha4
              have HB13 : Hid (Below (w7.heap.size + 1) W12 w13) := ((Below.refl (w7.heap.size + 1) W12).alloc (by omega) _).trans hb4
              have HO13 := Lib.hid (HO12.out.below HB13.out (Nat.lt_succ_self _))
              have HY13 := Lib.hid ((HY12.out.below ((Below.refl _ W12).alloc (Nat.le_refl _) (.cells #[.string x, .bool false, .int .u64 d1, .int .u64 d2] 102))).others hok4 (by decide))
              have HBB : Hid (Below w7.heap.size w7 w13) := hBel.out.trans ((HB12.out.mono (by omega)).trans (HB13.out.mono (by omega)))
              have hz13 : w7.heap.size + 1 ≤ w13.heap.size := by have := HB13.out.size; omega
              clear ha4 hb4 hok4 o0 o1 o2 o3 o4 o5 o6 o7 o8 v0 v1 v2 v3 u2 u3 f2 f3 hW12 HE11 HB11 HA12 HO12
              obtain ⟨o0, o1, o2, o3, o4, o5, o6, o7, o8⟩ := HO13.out.nine
              have g2 := HO13.out.free 2
              go_wp2_with fail
              go_roundw
              case rel => exact ⟨j + 1, q2, _, A2, c2, A4, c4, by go_num, by go_num, hlt, HST.out, HY13.out.box HO13.out (by decide) 2 _, hc2, hm2', HA13.out.setCell (a := ⟨w7.heap.size, 2, none⟩) (Nat.lt_succ_self _) _, hn4, hm4, HO13.out.set 2 (.slice A4 (j + 1) c4), HBB.out.setCell (p := ⟨w7.heap.size, 2, none⟩) (Nat.le_refl _) _, by simpa using hz13⟩
              case measure => simp [intOf]; omega
            · have HN : Hid (sto (k + 1) p l = none) := hSt.out.filex HX.out HLF.out hz
              have HDx := Lib.hid (HD7.out.below (hBel.out.trans (HB11.out.mono (by omega))) (by omega))
              have HBx : Hid (Below w.heap.size w w11) := HBw7.out.trans ((hBel.out.trans (HB11.out.mono (by omega))).mono (by omega))
              clear hz HPC
              have f2 := HE11.out.free 2; have f3 := HE11.out.free 3
              have u2 := HE11.out.cell 2; have u3 := HE11.out.cell 3
              simp at u2 u3
              obtain ⟨W12, hW12⟩ : ∃ W, (w11.setCell ⟨wr.heap.size, 2, none⟩ (.int .u64 zD.1)).setCell ⟨wr.heap.size, 3, none⟩ (.int .u64 zD.2) = W := ⟨_, rfl⟩
              have HDy : Hid (Bk W12 w.heap.size 30 #[.int .u64 0, .int .u64 0]) := by rw [← hW12]; exact (HDx.out.far (p := ⟨wr.heap.size, 2, none⟩) (by show w.heap.size ≠ wr.heap.size; omega) _).far (p := ⟨wr.heap.size, 3, none⟩) (by show w.heap.size ≠ wr.heap.size; omega) _
              have HBy : Hid (Below w.heap.size w W12) := by rw [← hW12]; exact (HBx.out.setCell (p := ⟨wr.heap.size, 2, none⟩) (by show w.heap.size ≤ wr.heap.size; omega) _).setCell (p := ⟨wr.heap.size, 3, none⟩) (by show w.heap.size ≤ wr.heap.size; omega) _
              obtain ⟨d0', d1', _, _⟩ := HDy.out.two
              have e0 := HDy.out.free 0; have e1 := HDy.out.free 1
              go_wp2_with fail
              refine bodyPost_ret (res_pcp Tryz.results45 rfl rfl (HDy.out.set2 _ _) rfl) rfl ⟨.inr ⟨HN.out, rfl⟩, below_set2 HBy.out (Nat.le_refl _) _ _⟩
          | none =>
            have HLF := Lib.hid hlf
            have HNE2 := Lib.hid (dir_ne (List.mem_of_getElem? HX.out) hlf)
            rw [hlf] at hgf
            simp only [Bool.false_eq_true, if_false, Option.map_none] at hgf
            rw [hgf] at hlk
            simp only [Option.getD_none, Option.isSome_none] at hlk
            clear hgf hlf
            obtain ⟨W9, hW9⟩ : ∃ W, ((wr.alloc (.cells #[.string x, .bool false, .int .u64 0, .int .u64 0] 102)).alloc (.cells #[.string ⟨#[]⟩, .string ⟨#[]⟩] 68)).setCell ⟨wr.heap.size, 1, none⟩ (.bool true) = W := ⟨_, rfl⟩
            have HEx : Hid (Bk ((wr.alloc (.cells #[.string x, .bool false, .int .u64 0, .int .u64 0] 102)).alloc (.cells #[.string ⟨#[]⟩, .string ⟨#[]⟩] 68)) wr.heap.size 102 #[.string x, .bool false, .int .u64 0, .int .u64 0]) := (Bk.new wr _ _).alloc _
            have HE9 : Hid (Bk W9 wr.heap.size 102 #[.string x, .bool true, .int .u64 0, .int .u64 0]) := by rw [← hW9]; exact HEx.out.set 1 (.bool true)
            have HB9 : Hid (Below wr.heap.size wr W9) := by rw [← hW9]; exact (((Below.refl _ wr).alloc (Nat.le_refl _) _).alloc (by simp) _).setCell (p := ⟨wr.heap.size, 1, none⟩) (Nat.le_refl _) _
            have z9 : wr.heap.size + 2 = W9.heap.size := by rw [← hW9]; simp
            have HSM9 := Lib.hid (HSM7.out.below (hBel.out.trans (HB9.out.mono (by omega))))
            have hlb : (Instr.lookup 123 (.map (some (w.heap.size + 1))) (.string x) false).run Tryz.prog (((wr.alloc (.cells #[.string x, .bool false, .int .u64 0, .int .u64 0] 102)).alloc (.cells #[.string ⟨#[]⟩, .string ⟨#[]⟩] 68)).setCell ⟨wr.heap.size, 1, none⟩ (.bool true)) = .ok ((gb x).getD nilS) (((wr.alloc (.cells #[.string x, .bool false, .int .u64 0, .int .u64 0] 102)).alloc (.cells #[.string ⟨#[]⟩, .string ⟨#[]⟩] 68)).setCell ⟨wr.heap.size, 1, none⟩ (.bool true)) := by
              rw [hW9]
              exact HSM9.out.b.look Tryz.underlying9 Tryz.underlying123 (Tryz.zeroValue24 _) hsm
            have HW9 := Lib.hid hW9
            have y1 := HEx.out.cell 1
            simp at y1
            have f1 := HEx.out.free 1
            clear hW9
            have HOW := Lib.hid (HSM9.out.rows.own x)
            obtain ⟨vb, hvb⟩ : ∃ v, (gb x).getD nilS = v := ⟨_, rfl⟩
            simp only [hvb] at HOW
            have HV : Hid (∃ Ab cb, vb = .slice Ab (inD l x).length cb) := by
              rcases HOW.out.2 with ⟨h1, h2⟩ | ⟨g, cap, cur, h1, _⟩
              · exact ⟨none, 0, by rw [h1, h2]⟩
              · exact ⟨_, _, h1⟩
            obtain ⟨Ab, cb, rfl⟩ := HV.out
            rw [hvb] at hlb
            have HSB := Lib.hid (Sl.of_own HOW.out)
            have HLN : Hid (q.length + wt (inD l x) ≤ 800000) := by
              have h1 := hSt.out.len
              rw [rem_step HX.out] at h1
              have h2 := wt_sub l x
              have h3 := HSZ.out
              rw [← HPL.out] at h3
              show _ ≤ _; omega
            obtain ⟨k', rfl⟩ : ∃ k', k = k' + 1 := by
              obtain ⟨f, hf⟩ := List.exists_mem_of_ne_nil _ HNE2.out
              obtain ⟨g, hg, h1, _, _⟩ := mem_inD.1 hf
              have h3 := (path_rest (HOL.out.path g hg) h1).2
              have h4 := HLK.out g hg
              exact ⟨k - 1, by omega⟩
            have HPC := Lib.hid (IH.out k' rfl (inD l x) (HOL.out.sub x) (fun f hf => by
              obtain ⟨g, hg, h1, h2, rfl⟩ := mem_inD.1 hf
              have h3 := (path_rest (HOL.out.path g hg) h1).2
              have h4 := HLK.out g hg
              simp only
              omega) q Aq q.length cq Ab (inD l x).length cb W9.heap.size W9 (HPQ.out _ _ _ _ (hPly.out.below HB9.out) (HBw7.out.trans ((hBel.out.mono (by omega)).trans (HB9.out.mono (by omega))))) HSB.out (Nat.le_refl _) hqc hcq hSt.out.ok HLN.out)
            unfold StoE at HPC
            simp only [digV] at HPC
            obtain ⟨ib, hib⟩ : ∃ ib, (inD l x).length = ib := ⟨_, rfl⟩
            rw [hib] at hlb HPC
            clear hvb hib HOW
            go_wp2_with fail
            rw [HW9.out]
            refine HPC.out.mono ?_
            rintro e w11 ⟨hq, hb11⟩
            have HE11 := Lib.hid (HE9.out.below hb11 (by omega))
            have HB11 : Hid (Below wr.heap.size wr w11) := HB9.out.trans (hb11.mono HB9.out.size)
            have z11 : W9.heap.size ≤ w11.heap.size := hb11.size
            clear hb11 HE9 HB9 HW9 hlb y1 f1 HEx HWe HEe HBe
            rcases hq with ⟨q2, ⟨d1, d2⟩, A2, c2, hz, hrr, rfl, hs11, hc2, hm2', hy⟩ | ⟨hz, rfl⟩
            · have HZ := Lib.hid hz; have HY := Lib.hid hy
              have HRR := Lib.hid hrr
              clear hrr
              have HST := Lib.hid (hSt.out.dir HOL.out HX.out HLF.out HZ.out HRR.out HNE2.out)
              clear hz hy hs11 HPC
              obtain ⟨W12, hW12⟩ : ∃ W, (w11.setCell ⟨wr.heap.size, 2, none⟩ (.int .u64 d1)).setCell ⟨wr.heap.size, 3, none⟩ (.int .u64 d2) = W := ⟨_, rfl⟩
              have HE12 : Hid (Bk W12 wr.heap.size 102 #[.string x, .bool true, .int .u64 d1, .int .u64 d2]) := by rw [← hW12]; exact (HE11.out.set 2 (.int .u64 d1)).set 3 (.int .u64 d2)
              have HB12 : Hid (Below wr.heap.size wr W12) := by rw [← hW12]; exact (HB11.out.setCell (p := ⟨wr.heap.size, 2, none⟩) (Nat.le_refl _) _).setCell (p := ⟨wr.heap.size, 3, none⟩) (Nat.le_refl _) _
              have HY12 : Hid (Ply W12 w.heap.size A c p A2 c2 q2) := by
                rw [← hW12]
                exact ((hPly.out.trans HB11.out HY.out (by omega)).box HE11.out (by decide) 2 _).box (HE11.out.set 2 (.int .u64 d1)) (by decide) 3 _
              have z12 : wr.heap.size < W12.heap.size := by rw [← hW12]; simp; omega
              have HO12 := Lib.hid (hOB.out.below HB12.out (by omega))
              have HA12 := Lib.hid (hAp.out.below HB12.out)
              have f2 := HE11.out.free 2; have f3 := HE11.out.free 3
              have u2 := HE11.out.cell 2; have u3 := HE11.out.cell 3
              simp at u2 u3
              obtain ⟨v0, v1, v2, v3⟩ := HE12.out.four
              obtain ⟨o0, o1, o2, o3, o4, o5, o6, o7, o8⟩ := HO12.out.nine
              go_wp2_with (at_builtin; refine halt_ ?_)
              refine unhalt ?_
              refine wpList_append_apd (base := w7.heap.size + 1) (size := 4) _ rfl (.tmp 104) (.tmp 106) 79 rfl 102 i0 _ 40 Tryz.underlying79 Hi.out Hz0.out Hz1.out Hz2.out rfl (by decide) EA j ec (flat enC es) rfl ?own_1 (W12.heap.size + 1) _ 1 _ (enC ⟨x, true, (d1, d2)⟩) rfl ?nw_1 (by simp [enC, Value.oneCell']) ?m1_1 ?m2_1 ?m3_1 ?_
              case own_1 => exact HA12.out.below ((Below.refl _ W12).alloc (Nat.le_refl _) _)
              case nw_1 =>
                have := Sl.of_bk (n := 1) (size := 4) (Bk.new W12 102 #[.string x, .bool true, .int .u64 d1, .int .u64 d2]) rfl
                rw [World.size_alloc] at this; exact this
              case m1_1 => unfold maxLen; omega
              case m2_1 => omega
              case m3_1 => simp; omega
              intro A4 c4 w13 ha4 hb4 hn4 hm4 hok4
              have HA13 : Hid (Apd w13 (w7.heap.size + 1) 102 4 A4 (j + 1) c4 (flat enC (es ++ [⟨x, true, (d1, d2)⟩]))) := by
                show Apd _ _ _ _ _ _ _ _
                rw [flat_append]
                simpa [flat] using ha4
              have HB13 : Hid (Below (w7.heap.size + 1) W12 w13) := ((Below.refl (w7.heap.size + 1) W12).alloc (by omega) _).trans hb4
              have HO13 := Lib.hid (HO12.out.below HB13.out (Nat.lt_succ_self _))
              have HY13 := Lib.hid ((HY12.out.below ((Below.refl _ W12).alloc (Nat.le_refl _) (.cells #[.string x, .bool true, .int .u64 d1, .int .u64 d2] 102))).others hok4 (by decide))
              have HBB : Hid (Below w7.heap.size w7 w13) := hBel.out.trans ((HB12.out.mono (by omega)).trans (HB13.out.mono (by omega)))
              have hz13 : w7.heap.size + 1 ≤ w13.heap.size := by have := HB13.out.size; omega
              clear ha4 hb4 hok4 o0 o1 o2 o3 o4 o5 o6 o7 o8 v0 v1 v2 v3 u2 u3 f2 f3 hW12 HE11 HB11 HA12 HO12
              obtain ⟨o0, o1, o2, o3, o4, o5, o6, o7, o8⟩ := HO13.out.nine
              have g2 := HO13.out.free 2
              go_wp2_with fail
              go_roundw
              case rel => exact ⟨j + 1, q2, _, A2, c2, A4, c4, by go_num, by go_num, hlt, HST.out, HY13.out.box HO13.out (by decide) 2 _, hc2, hm2', HA13.out.setCell (a := ⟨w7.heap.size, 2, none⟩) (Nat.lt_succ_self _) _, hn4, hm4, HO13.out.set 2 (.slice A4 (j + 1) c4), HBB.out.setCell (p := ⟨w7.heap.size, 2, none⟩) (Nat.le_refl _) _, by simpa using hz13⟩
              case measure => simp [intOf]; omega
            · have HN : Hid (sto (k' + 1 + 1) p l = none) := hSt.out.dirx HX.out HLF.out hz
              have HDx := Lib.hid (HD7.out.below (hBel.out.trans (HB11.out.mono (by omega))) (by omega))
              have HBx : Hid (Below w.heap.size w w11) := HBw7.out.trans ((hBel.out.trans (HB11.out.mono (by omega))).mono (by omega))
              clear hz HPC
              have f2 := HE11.out.free 2; have f3 := HE11.out.free 3
              have u2 := HE11.out.cell 2; have u3 := HE11.out.cell 3
              simp at u2 u3
              obtain ⟨W12, hW12⟩ : ∃ W, (w11.setCell ⟨wr.heap.size, 2, none⟩ (.int .u64 zD.1)).setCell ⟨wr.heap.size, 3, none⟩ (.int .u64 zD.2) = W := ⟨_, rfl⟩
              have HDy : Hid (Bk W12 w.heap.size 30 #[.int .u64 0, .int .u64 0]) := by rw [← hW12]; exact (HDx.out.far (p := ⟨wr.heap.size, 2, none⟩) (by show w.heap.size ≠ wr.heap.size; omega) _).far (p := ⟨wr.heap.size, 3, none⟩) (by show w.heap.size ≠ wr.heap.size; omega) _
              have HBy : Hid (Below w.heap.size w W12) := by rw [← hW12]; exact (HBx.out.setCell (p := ⟨wr.heap.size, 2, none⟩) (by show w.heap.size ≤ wr.heap.size; omega) _).setCell (p := ⟨wr.heap.size, 3, none⟩) (by show w.heap.size ≤ wr.heap.size; omega) _
              obtain ⟨d0', d1', _, _⟩ := HDy.out.two
              have e0 := HDy.out.free 0; have e1 := HDy.out.free 1
              go_wp2_with fail
              refine bodyPost_ret (res_pcp Tryz.results45 rfl rfl (HDy.out.set2 _ _) rfl) rfl ⟨.inr ⟨HN.out, rfl⟩, below_set2 HBy.out (Nat.le_refl _) _ _⟩
        · have hlz : ¬ (j : Int) < (nn : Int) := by omega
          have HJN : Hid (j = nn) := by show _ = _; omega
          have HBz : Hid (Below w.heap.size w wr) := HBw7.out.trans (hBel.out.mono (by omega))
          have HDz := Lib.hid (HD7.out.below hBel.out (by omega))
          have HELN : Hid (es.length = j) := hSt.out.elen (by rw [HNL.out]; exact hj)
          have HES := Lib.hid (hSt.out.es HOL.out)
          have HPC := Lib.hid (pput_any Aq q.length cq wr.heap.size q (treeO es) ⟨EA, j, ec, none, 0, 0⟩ wr (HPQ.out _ _ _ _ hPly.out HBz.out) ⟨hAp.out.sl, Sl.nil _ _ _ _, hje, hec, Nat.le_refl _, Nat.zero_le _⟩ (Nat.le_refl _) hqc hcq (by have h1 := hSt.out.plen; have h2 := HSZ.out; rw [← HPL.out] at h2; omega) hSt.out.ok.asc (okO_treeO HES.out))
          unfold PuE at HPC
          obtain ⟨⟨d1, d2⟩, hdd⟩ : ∃ d, dgO (treeO es) = d := ⟨_, rfl⟩
          have HDD := Lib.hid hdd
          rw [hdd] at HPC
          simp only [digV, obV, obC, treeO] at HPC
          clear hdd
          obtain ⟨o0, o1, o2, o3, o4, o5, o6, o7, o8⟩ := hOB.out.nine
          go_wp2_with fail
          refine HPC.out.mono ?_
          rintro e w11 ⟨hq, hb11⟩
          have HB11 : Hid (Below w.heap.size w w11) := HBz.out.trans (hb11.mono HBz.out.size)
          have HD11 := Lib.hid (HDz.out.below hb11 (by omega))
          obtain ⟨t0, t1, _, _⟩ := HD11.out.two
          have e0 := HD11.out.free 0; have e1 := HD11.out.free 1
          have HBW := Lib.hid hb11
          clear hb11 HPC o0 o1 o2 o3 o4 o5 o6 o7 o8
          rcases hq with ⟨q2, A2, c2, hz, rfl, hs11, hc2, hm2', hy⟩ | ⟨hz, rfl⟩
          · have HN : Hid (sto (k + 1) p l = some (q2, (d1, d2))) := by
              have := hSt.out.done (by rw [HNL.out, HJN.out]; exact Nat.le_refl _) hz
              rw [HDD.out] at this; exact this
            have HRR : Hid (StoR p q2 (d1, d2) l) := by
              have := hSt.out.res HOL.out hz
              rw [HDD.out] at this; exact this
            have HY : Hid (Ply w11 w.heap.size A c p A2 c2 q2) := hPly.out.trans HBW.out hy (by have := HBz.out.size; omega)
            have HY2 : Hid (Ply ((w11.setCell ⟨w.heap.size, 0, none⟩ (.int .u64 d1)).setCell ⟨w.heap.size, 1, none⟩ (.int .u64 d2)) w.heap.size A c p A2 c2 q2) := (HY.out.box HD11.out (by decide) 0 _).box (HD11.out.set 0 (.int .u64 d1)) (by decide) 1 _
            clear hz hy hs11
            go_wp2_with fail
            refine bodyPost_ret (res_pcp Tryz.results45 rfl rfl (HD11.out.set2 _ _) rfl) rfl ⟨.inl ⟨q2, (d1, d2), A2, c2, HN.out, HRR.out, rfl, ?_, hc2, hm2', HY2.out⟩, below_set2 HB11.out (Nat.le_refl _) _ _⟩
            exact HPQ.out _ _ _ _ HY2.out (below_set2 HB11.out (Nat.le_refl _) _ _)
          · have HN : Hid (sto (k + 1) p l = none) := hSt.out.donex (by rw [HNL.out, HJN.out]; exact Nat.le_refl _) hz
            clear hz
            go_wp2_with fail
            refine bodyPost_ret (res_pcp Tryz.results45 rfl rfl (HD11.out.set2 _ _) rfl) rfl ⟨.inr ⟨HN.out, rfl⟩, below_set2 HB11.out (Nat.le_refl _) _ _⟩
theorem store_all : ∀ k, StoC k := by
  intro k
  induction k with
  | zero => exact store_core 0 (fun k' h => by omega)
  | succ k ih => exact store_core (k + 1) (fun k' h => by obtain rfl : k' = k := (by omega); exact ih)
end Go.Proofs.YtmdhlkkekidknaaGreatDoor

namespace Go.Proofs.YtmdhlkkekidknaaGreatDoor
open Go.RowKit Go.Maps Go.Sort Go.Shelf
attribute [local go_sem] Oper.semAt_some

theorem collG_any (gf : Nat) (lb : Array Value) (eg : ∀ args w, (callFunc gf args).run Tryz.prog w = .ok (.enter gf args) w) (S Sp : List (List UInt8) → Prop) (N : Nat) (w : World) (hn : N ≤ 1000000) (hseq : SeqStops Fence.wide 5 Tryz.prog gf lb encStr S Sp N w) :
    Calls Tryz.prog 88 #[.func (.func gf) #[] lb] w fun e w' =>
      ∃ A c ss, e = .returned (.slice A ss.length c) ∧ S ss ∧ w'.ownsRow w.heap.size 9 1 (.slice A ss.length c) ss.length (strs (ss.map ub)) ∧ Below w.heap.size w w' := by
  have HA := Lib.hid (appSeq_any gf lb eg S Sp N none 0 0 [] w w (World.ownsRow_nil _ _ _ _) (Below.refl _ _) (by omega) hseq)
  clear hseq
  go_enter Tryz.func88, Tryz.ntmps88
  go_wp2_with (go_at_call 90; refine HA.out.mono ?_; rintro e w1 ⟨A, c, ss, rfl, h⟩; rw [Nat.zero_add, List.nil_append] at h; have HH := Lib.hid h; clear h)
  go_ret
  exact ⟨A, c, ss, rfl, HH.out⟩
theorem sortedG_any (gf : Nat) (lb : Array Value) (eg : ∀ args w, (callFunc gf args).run Tryz.prog w = .ok (.enter gf args) w) (S Sp : List (List UInt8) → Prop) (N : Nat) (w : World) (hn : N ≤ 1000) (hS : ∀ ss, S ss → ss.length ≤ N) (hseq : SeqStops Fence.wide 5 Tryz.prog gf lb encStr S Sp N w) :
    Calls Tryz.prog 77 #[.func (.func gf) #[] lb] w fun e w' =>
      ∃ A c ss, e = .returned (.slice A ss.length c) ∧ S ss ∧ w'.ownsRow w.heap.size 9 1 (.slice A ss.length c) ss.length (strs (srtB (ss.map ub))) ∧ Below w.heap.size w w' := by
  have HA := Lib.hid (collG_any gf lb eg S Sp N w (by omega) hseq)
  clear hseq
  go_enter Tryz.func77, Tryz.ntmps77
  go_wp2_with fail
  refine HA.out.mono ?_
  rintro e w1 ⟨A, c, ss, rfl, hs, hrow, hb⟩
  have HSS := Lib.hid hs; have HB := Lib.hid hb; have HROW := Lib.hid hrow
  have hl := hS ss hs
  have HS := Lib.hid (sort_any w.heap.size ss.length c A (ss.map ub) w1 hrow (by omega))
  clear hs hb hrow HA
  go_wp2_with fail
  refine HS.out.mono ?_
  rintro e w2 ⟨rfl, h1, h2⟩
  have HB2 : Hid (Below w.heap.size w w2) := HB.out.grown h2 HB.out.size (fun k hk => ownBlock_ge HROW.out k hk)
  have H1 := Lib.hid h1
  clear h1 h2 HS
  go_wp2_with fail
  go_ret
  exact ⟨A, c, ss, rfl, HSS.out, H1.out, HB2.out⟩
def SkE (g : ByteArray → Option Value) (N : Nat) (w : World) (e : Ending) (w' : World) : Prop :=
  ∃ A c ks, e = .returned (.slice A ks.length c) ∧ Asc ks ∧ (∀ x, x ∈ ks ↔ (g x).isSome = true) ∧ ks.length ≤ N ∧ w'.ownsRow w.heap.size 9 1 (.slice A ks.length c) ks.length (strs ks) ∧ Below w.heap.size w w'
theorem sortedK_of {gf : Nat} {lb : Array Value} {g : ByteArray → Option Value} {N : Nat} {w : World} (eg : ∀ args w, (callFunc gf args).run Tryz.prog w = .ok (.enter gf args) w) (hn : N ≤ 1000)
    (h : ∃ S Sp, SeqStops Fence.wide 5 Tryz.prog gf lb encStr S Sp N w ∧ ∀ ss, S ss → KeysR g N (ss.map ub)) : Calls Tryz.prog 77 #[.func (.func gf) #[] lb] w (SkE g N w) := by
  obtain ⟨S, Sp, h1, h2⟩ := h
  refine (sortedG_any gf lb eg S Sp N w hn (fun ss hs => by have := (h2 ss hs).few; rwa [List.length_map] at this) h1).mono ?_
  rintro e w' ⟨A, c, ss, rfl, hs, hr, hb⟩
  have hk := h2 ss hs
  have hl : (srtB (ss.map ub)).length = ss.length := by rw [srtB_len, List.length_map]
  exact ⟨A, c, srtB (ss.map ub), by rw [hl], srtB_asc hk.nod, fun x => by rw [srtB_mem]; exact hk.mem x, by rw [hl]; have := hk.few; rwa [List.length_map] at this, by rw [hl]; exact hr, hb⟩

theorem keysS_any (b : Nat) (w : World) : Calls Tryz.prog 81 #[.map (some b)] w fun e w' => e = .returned (.func (.func 120) #[] #[.pointer (some ⟨w.heap.size, 0, none⟩)]) ∧ w' = w.alloc (.cells #[.map (some b)] 118) := by
  go_enter Tryz.func81, Tryz.ntmps81
  go_wp2_with fail
  go_ret
  exact ⟨rfl, rfl⟩
theorem sortedS_any (Bm b N : Nat) (g : ByteArray → Option Value) (w : World) (hM : Rm w Tryz.prog 9 b N g) (hc : w.cell? ⟨Bm, 0, none⟩ = some (.map (some b))) (hB : Bm < w.heap.size) (hn : N ≤ 1000) :
    Calls Tryz.prog 77 #[.func (.func 120) #[] #[.pointer (some ⟨Bm, 0, none⟩)]] w (SkE g N w) :=
  sortedK_of (enters_of Tryz.func120 (by kernel_rfl) rfl) hn (by
    obtain ⟨D, h1, h2, h3⟩ := hM.keys Tryz.underlying9
    exact ⟨_, _, fun l J Jx W hW hJ hJx hY h0 => AnyZ.keys_stops (ρ := Tryz.keysS_ren) { Tryz.keysS with } Fence.wide 5 trivial rfl (by omega) Bm b N D w hB hc h1 l J Jx W hW hJ hJx (fun pre x W1 hj hl => hY pre x W1 hj (Nat.lt_of_lt_of_le hl h2)) h0, h3⟩)
end Go.Proofs.YtmdhlkkekidknaaGreatDoor
