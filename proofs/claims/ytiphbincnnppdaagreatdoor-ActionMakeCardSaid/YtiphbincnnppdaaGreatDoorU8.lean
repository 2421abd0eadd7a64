/-
  Lemmas: cordwoodref41.DecodeOutput. graph.find by dependences, and graph.Deps. slices.IndexFunc over targets with the closure of action.Inputs: the first target with a label. action.Inputs. The chapter's example, in plain Lean: the graph a <- b <- t is valid, and what its actions read. awake: the chapter's example. ActionOutputs.
-/
import Derived.Test.YtiphbincnnppdaaGreatDoorU7

namespace Go.Proofs.YtiphbincnnppdaaGreatDoor
open Go.RowKit

def rrK : Nat → Bytes × Bool → List Fl × Bytes × Bool
  | 0, st => ([], st)
  | n + 1, st => ((rrK n st).1 ++ [(ofL (rrT (rrK n st).2).1, ofL (rrT (rrT (rrK n st).2).2).1)], (rrT (rrT (rrK n st).2).2).2)
theorem rrK_len : ∀ (n : Nat) (st : Bytes × Bool), (rrK n st).2.1.length ≤ st.1.length ∧ ((rrK n st).1).length = n ∧ ∀ f ∈ (rrK n st).1, f.1.size ≤ st.1.length ∧ f.2.size ≤ st.1.length
  | 0, st => ⟨Nat.le_refl _, rfl, fun f hf => by cases hf⟩
  | n + 1, st => by
    obtain ⟨h1, h2, h3⟩ := rrK_len n st
    have a1 := rrT_len (rrK n st).2
    have a2 := rrT_len (rrT (rrK n st).2).2
    refine ⟨by simp only [rrK]; omega, by simp [rrK, h2], fun f hf => ?_⟩
    simp only [rrK, List.mem_append, List.mem_singleton] at hf
    rcases hf with hf | rfl
    · exact h3 f hf
    · simp only [size_ofL]; omega
theorem rrN_enc {m : Nat} (hm : m ≤ 1099511627776) (r : Bytes) (b : Bool) : rrN (encN m ++ r, b) = (m, r, b) := by
  unfold rrN
  simp only [getI_enc hm r]
  rw [if_neg (by simp)]
  simp
theorem rrT_enc {t : Bytes} (h : t.length ≤ 65536) (r : Bytes) (b : Bool) : rrT (encT t ++ r, b) = (t, r, b) := by
  unfold rrT
  simp only [getT_enc h r]
  rw [if_neg (by simp)]
  simp
theorem rrK_enc {fs : List Fl} (h : ∀ f ∈ fs, f.1.size ≤ 65536 ∧ f.2.size ≤ 65536) : ∀ k, k ≤ fs.length → rrK k (encFs fs, false) = (fs.take k, encFs (fs.drop k), false)
  | 0, _ => by simp [rrK]
  | k + 1, hk => by
    have ih := rrK_enc h k (by omega)
    have hx : fs[k]? = some fs[k] := List.getElem?_eq_getElem (by omega)
    have h1 := h fs[k] (List.getElem_mem _)
    have e : encFs (fs.drop k) = encT (toL fs[k].1) ++ (encT (toL fs[k].2) ++ encFs (fs.drop (k + 1))) := by
      have hd : fs.drop k = fs[k] :: fs.drop (k + 1) := List.drop_eq_getElem_cons (by omega)
      unfold encFs; rw [hd, List.flatMap_cons, List.append_assoc]
    simp only [rrK, ih, e]
    rw [rrT_enc (by rw [← size_toL]; exact h1.1)]
    simp only
    rw [rrT_enc (by rw [← size_toL]; exact h1.2)]
    simp only [ofL_toL]
    rw [take_snoc hx]
/-- what the reference reads from an encoding -/
theorem rr_enc {s : Bytes} {o : Out} (h : DecP s o) : ∃ r1 r2, rrN (s, false) = (if o.1 = true then 1 else 0, r1, false) ∧ rrT (r1, false) = (toL o.2.1, r2, false) ∧ rrN (r2, false) = (o.2.2.length, encFs o.2.2, false) ∧
    ∀ k, k ≤ o.2.2.length → rrK k (encFs o.2.2, false) = (o.2.2.take k, encFs (o.2.2.drop k), false) := by
  obtain ⟨fd, msg, fs⟩ := o
  obtain ⟨h1, rfl⟩ := h
  obtain ⟨m1, m2, m3⟩ := chkO_zero h1
  simp only at m1 m2 m3 ⊢
  have e : encO fd msg fs = encN (if fd = true then 1 else 0) ++ (encT (toL msg) ++ (encN fs.length ++ encFs fs)) := by simp [encO, List.append_assoc]
  have hfd : (if fd = true then 1 else 0) ≤ 1099511627776 := by split <;> omega
  refine ⟨_, _, ?_, rrT_enc (by rw [← size_toL]; omega) (encN fs.length ++ encFs fs) false, rrN_enc (by omega) _ _, rrK_enc (fun f hf => ⟨by have := m3 f hf; omega, (m3 f hf).2⟩)⟩
  rw [e]; exact rrN_enc hfd _ _
set_option maxRecDepth 100000 in
set_option maxHeartbeats 8000000 in
theorem rdecodeOutput_any (s : ByteArray) (w : World) (hs : s.size ≤ 1000000) : Calls Tryz.prog 25 #[.string s] w (DecEnd s w) := by
  have hsm : s.size ≤ maxLen := by unfold maxLen; omega
  obtain ⟨i0, hi, hz0, hz1, hz2⟩ := info_parts infoFl
  have Hi := Lib.hid hi; have Hz0 := Lib.hid hz0; have Hz1 := Lib.hid hz1; have Hz2 := Lib.hid hz2
  clear hi hz0 hz1 hz2
  obtain ⟨W1, hW1⟩ : ∃ W, w.alloc (.cells #[.bool false, .string ⟨#[]⟩, .slice none 0 0] 50) = W := ⟨_, rfl⟩
  have z1 : W1.heap.size = w.heap.size + 1 := by rw [← hW1]; simp
  have K1 : Hid (Bk W1 w.heap.size 50 #[.bool false, .string ⟨#[]⟩, .slice none 0 0]) := by rw [← hW1]; exact Bk.new w _ _
  have HB1 : Hid (Below w.heap.size w W1) := by rw [← hW1]; exact (Below.refl _ w).alloc (Nat.le_refl _) _
  have HN1 := Lib.hid (rrnumber_any s false W1 hsm)
  go_enter Tryz.func25, Tryz.ntmps25
  go_wp2_with fail
  refine HN1.out.mono ?_
  rintro e w2 ⟨rfl, hb2⟩
  have ya := rrN_len (toL s, false)
  generalize hA : rrN (toL s, false) = a at *
  have HA := Lib.hid hA
  clear hA hW1 HN1
  obtain ⟨an, ar, ab⟩ := a
  simp only at ya ⊢
  have hza := size_toL s
  have hz2 := hb2.size
  obtain ⟨W2, hW2⟩ : ∃ W, w2.alloc (.cells #[.string (ofL ar), .bool ab] 90) = W := ⟨_, rfl⟩
  have zW2 : W2.heap.size = w2.heap.size + 1 := by rw [← hW2]; simp
  have K2 : Hid (Bk W2 w.heap.size 50 #[.bool false, .string ⟨#[]⟩, .slice none 0 0]) := by rw [← hW2]; exact (K1.out.below hb2 (by omega)).alloc _
  have R2 : Hid (Bk W2 w2.heap.size 90 #[.string (ofL ar), .bool ab]) := by rw [← hW2]; exact Bk.new w2 _ _
  have HB2 : Hid (Below w.heap.size w W2) := by rw [← hW2]; exact (HB1.out.trans (hb2.mono (by omega))).alloc (by omega) _
  have HN2 := Lib.hid (rrtext_any (ofL ar) ab W2 (by rw [size_ofL]; unfold maxLen; omega))
  rw [toL_ofL] at HN2
  clear hb2 K1 HB1
  have u0 := R2.out.cell 0; have u1 := R2.out.cell 1; simp at u0 u1
  go_wp2_with fail
  refine HN2.out.mono ?_
  rintro e w3 ⟨rfl, hb3⟩
  have yb := rrT_len (ar, ab)
  generalize hA : rrT (ar, ab) = a at *
  have HBB := Lib.hid hA
  clear hA hW2 HN2
  obtain ⟨bt, br, bb⟩ := a
  simp only at yb ⊢
  obtain ⟨rb, hrb⟩ : ∃ rb, w2.heap.size = rb := ⟨_, rfl⟩
  rw [hrb] at R2 zW2 hz2 u0 u1 ⊢
  have hz3 := hb3.size
  have k3 := R2.out.below hb3 (by omega)
  obtain ⟨W3, hW3⟩ : ∃ W, (w3.setCell ⟨rb, 0, none⟩ (.string (ofL br))).setCell ⟨rb, 1, none⟩ (.bool bb) = W := ⟨_, rfl⟩
  have zW3 : W3.heap.size = w3.heap.size := by rw [← hW3]; simp [World.setCell]
  have R3 : Hid (Bk W3 rb 90 #[.string (ofL br), .bool bb]) := by rw [← hW3]; exact k3.set2 _ _
  have K3 : Hid (Bk W3 w.heap.size 50 #[.bool false, .string ⟨#[]⟩, .slice none 0 0]) := by rw [← hW3]; exact ((K2.out.below hb3 (by omega)).far (by simp; omega) _).far (by simp; omega) _
  have HB3 : Hid (Below w.heap.size w W3) := by rw [← hW3]; exact below_set2 (HB2.out.trans (hb3.mono (by omega))) (by omega) _ _
  have HN3 := Lib.hid (rrnumber_any (ofL br) bb W3 (by rw [size_ofL]; unfold maxLen; omega))
  rw [toL_ofL] at HN3
  clear u0 u1
  have c0 := k3.cell 0; have c1 := k3.cell 1; simp at c0 c1
  have f0 := k3.free 0; have f1 := k3.free 1
  have u0 := R3.out.cell 0; have u1 := R3.out.cell 1; simp at u0 u1
  clear hb3 K2 R2 HB2 k3
  go_wp2_with fail
  refine HN3.out.mono ?_
  rintro e w4 ⟨rfl, hb4⟩
  have yc := rrN_len (br, bb)
  generalize hA : rrN (br, bb) = a at *
  have HC := Lib.hid hA
  clear hA hW3 HN3 c0 c1 f0 f1 u0 u1
  obtain ⟨cn, cr, cb⟩ := a
  simp only at yc ⊢
  have hz4 := hb4.size
  have k4 := R3.out.below hb4 (by omega)
  have hab : ((an : Int) == 1) = decide (an = 1) := by rw [Bool.eq_iff_iff, beq_iff_eq, decide_eq_true_iff]; omega
  generalize hfd : decide (an = 1) = fd at *
  have HFD := Lib.hid hfd
  clear hfd
  obtain ⟨W4, hW4⟩ : ∃ W, (w4.setCell ⟨rb, 0, none⟩ (.string (ofL cr))).setCell ⟨rb, 1, none⟩ (.bool cb) = W := ⟨_, rfl⟩
  obtain ⟨W5, hW5⟩ : ∃ W, W4.alloc (.cells #[.bool fd, .string (ofL bt), .slice none 0 0] 50) = W := ⟨_, rfl⟩
  have ZW4 : Hid (W4.heap.size = w4.heap.size) := by show _ = _; rw [← hW4]; simp [World.setCell]
  have zW5 : W5.heap.size = W4.heap.size + 1 := by rw [← hW5]; simp
  have R5 : Hid (Bk W5 rb 90 #[.string (ofL cr), .bool cb]) := by rw [← hW5, ← hW4]; exact (k4.set2 _ _).alloc _
  have K5 : Hid (Bk W5 w.heap.size 50 #[.bool false, .string ⟨#[]⟩, .slice none 0 0]) := by rw [← hW5, ← hW4]; exact (((K3.out.below hb4 (by omega)).far (by simp; omega) _).far (by simp; omega) _).alloc _
  have O5 : Hid (Bk W5 W4.heap.size 50 #[.bool fd, .string (ofL bt), .slice none 0 0]) := by rw [← hW5]; exact Bk.new W4 _ _
  have HB5 : Hid (Below w.heap.size w W5) := by rw [← hW5, ← hW4]; exact (below_set2 (HB3.out.trans (hb4.mono (by omega))) (by omega) _ _).alloc (by simp [World.setCell]; omega) _
  have hob : rb < W4.heap.size := by rw [ZW4.out]; omega
  have c0 := k4.cell 0; have c1 := k4.cell 1; simp at c0 c1
  have f0 := k4.free 0; have f1 := k4.free 1
  clear hb4 K3 R3 HB3 k4
  obtain ⟨ob, hobe⟩ : ∃ ob, W4.heap.size = ob := ⟨_, rfl⟩
  rw [hobe] at O5 hob zW5
  have HRO : Hid (∀ o, DecP (toL s) o → o.1 = fd ∧ o.2.1 = ofL bt ∧ cn = o.2.2.length ∧ ∀ k, k ≤ cn → rrK k (cr, cb) = (o.2.2.take k, encFs (o.2.2.drop k), false)) := fun o ho => by
    obtain ⟨r1, r2, e1, e2, e3, e4⟩ := rr_enc ho
    rw [HA.out] at e1
    simp only [Prod.mk.injEq] at e1
    obtain ⟨g1, g2, g3⟩ := e1
    rw [← g2] at e2
    have hb2 := HBB.out
    rw [g3, e2] at hb2
    simp only [Prod.mk.injEq] at hb2
    obtain ⟨g4, g5, g6⟩ := hb2
    have hc2 := HC.out
    rw [← g5, ← g6, e3] at hc2
    simp only [Prod.mk.injEq] at hc2
    obtain ⟨g7, g8, g9⟩ := hc2
    refine ⟨?_, by rw [← g4, ofL_toL], g7.symm, fun k hk => ?_⟩
    · rw [← HFD.out, g1]; cases o.1 <;> simp
    · rw [← g8, ← g9]; exact e4 k (by omega)
  clear HA HBB HC HFD
  have hoo : Hid (ob = W4.heap.size) := hobe.symm
  have HW5 := Lib.hid hW5
  clear hobe hW5
  go_wp2_with fail
  rw [HW5.out, ← hoo.out]
  go_loopw [9] (fun q wr => ∃ (k : Nat) (A : Option Addr) (c : Nat), k ≤ cn ∧ q = .int .i64 k ∧ Hid (Bk wr w.heap.size 50 #[.bool false, .string ⟨#[]⟩, .slice none 0 0]) ∧
      Hid (Bk wr rb 90 #[.string (ofL (rrK k (cr, cb)).2.1), .bool (rrK k (cr, cb)).2.2]) ∧ Hid (Bk wr ob 50 #[.bool fd, .string (ofL bt), .slice A k c]) ∧
      Hid (Apd wr (ob + 1) 62 2 A k c (flat flC (rrK k (cr, cb)).1)) ∧ Hid (Below w.heap.size w wr) ∧ ob + 1 ≤ wr.heap.size) (fun q _ => cn - (intOf q).toNat)
  case atStart => exact ⟨0, none, 0, Nat.zero_le _, rfl, K5.out, R5.out, O5.out, .inr ⟨rfl, rfl, rfl⟩, HB5.out, by omega⟩
  case round =>
    obtain ⟨k, A, c, hk, rfl, hK, hR, hO, hAp, hBel, hwz⟩ := hrel
    have yk := rrK_len k (cr, cb)
    have HKS : Hid (rrK (k + 1) (cr, cb) = ((rrK k (cr, cb)).1 ++ [(ofL (rrT (rrK k (cr, cb)).2).1, ofL (rrT (rrT (rrK k (cr, cb)).2).2).1)], (rrT (rrT (rrK k (cr, cb)).2).2).2)) := rfl
    have HRK : Hid (∀ o, DecP (toL s) o → o.1 = fd ∧ o.2.1 = ofL bt ∧ cn = o.2.2.length ∧ rrK k (cr, cb) = (o.2.2.take k, encFs (o.2.2.drop k), false)) := fun o ho => by
      obtain ⟨a1, a2, a3, a4⟩ := HRO.out o ho
      exact ⟨a1, a2, a3, a4 k hk⟩
    generalize rrK k (cr, cb) = a at *
    obtain ⟨fs, r0, b0⟩ := a
    simp only at yk hR hAp HKS HRK
    have x0 := hR.out.cell 0; have x1 := hR.out.cell 1; simp at x0 x1
    have hrz := hR.out.lt
    have hmx := yc.2
    by_cases hgo : k < cn ∧ b0 = false
    · obtain ⟨hlt, rfl⟩ := hgo
      have hlz : (k : Int) < (cn : Int) := by omega
      have HN6 := Lib.hid (rrtext_any (ofL r0) false wr (by rw [size_ofL]; unfold maxLen; omega))
      rw [toL_ofL] at HN6
      go_wp2_with fail
      refine HN6.out.mono ?_
      rintro e w6 ⟨rfl, hb6⟩
      have yt := rrT_len (r0, false)
      generalize rrT (r0, false) = a at *
      obtain ⟨t1, r1, b1⟩ := a
      simp only at yt HKS ⊢
      have hz6 := hb6.size
      obtain ⟨W6, hW6⟩ : ∃ W, w6.alloc (.cells #[.string (ofL r1), .bool b1] 90) = W := ⟨_, rfl⟩
      have zW6 : W6.heap.size = w6.heap.size + 1 := by rw [← hW6]; simp
      have B6 : Hid (Below wr.heap.size wr W6) := by rw [← hW6]; exact hb6.alloc hz6 _
      have N6 : Hid (Bk W6 w6.heap.size 90 #[.string (ofL r1), .bool b1]) := by rw [← hW6]; exact Bk.new w6 _ _
      have HN7 := Lib.hid (rrtext_any (ofL r1) b1 W6 (by rw [size_ofL]; unfold maxLen; omega))
      rw [toL_ofL] at HN7
      have n0 := N6.out.cell 0; have n1 := N6.out.cell 1; simp at n0 n1
      clear hb6 HN6 x0 x1
      go_wp2_with fail
      refine HN7.out.mono ?_
      rintro e w7 ⟨rfl, hb7⟩
      generalize rrT (r1, b1) = a at *
      obtain ⟨t2, r2, b2⟩ := a
      simp only at HKS ⊢
      have hz7 := hb7.size
      have b7 : Below wr.heap.size wr w7 := B6.out.trans (hb7.mono (by omega))
      have rk := (hR.out.below b7 (by omega)).alloc (.cells #[.string (ofL r2), .bool b2] 90)
      have kk := (hK.out.below b7 (by omega)).alloc (.cells #[.string (ofL r2), .bool b2] 90)
      have ok := (hO.out.below b7 (by omega)).alloc (.cells #[.string (ofL r2), .bool b2] 90)
      have ak := (hAp.out.below b7).below ((Below.refl _ w7).alloc (Nat.le_refl _) (.cells #[.string (ofL r2), .bool b2] 90))
      have bk := (hBel.out.trans (b7.mono hBel.out.size)).alloc (by have := hBel.out.size; omega) (.cells #[.string (ofL r2), .bool b2] 90)
      have nk := Bk.new w7 90 #[.string (ofL r2), .bool b2]
      obtain ⟨W8, hW8⟩ : ∃ W, w7.alloc (.cells #[.string (ofL r2), .bool b2] 90) = W := ⟨_, rfl⟩
      have zW8 : W8.heap.size = w7.heap.size + 1 := by rw [← hW8]; simp
      rw [hW8] at rk kk ok ak bk nk
      have p0 := nk.cell 0; have p1 := nk.cell 1; simp at p0 p1
      have q0 := rk.cell 0; have q1 := rk.cell 1; simp at q0 q1
      have f0 := rk.free 0; have f1 := rk.free 1
      obtain ⟨W9, hW9⟩ : ∃ W, (W8.setCell ⟨rb, 0, none⟩ (.string (ofL r2))).setCell ⟨rb, 1, none⟩ (.bool b2) = W := ⟨_, rfl⟩
      have zW9 : W9.heap.size = W8.heap.size := by rw [← hW9]; simp [World.setCell]
      have RK : Hid (Bk W9 rb 90 #[.string (ofL r2), .bool b2]) := by rw [← hW9]; exact rk.set2 _ _
      have KK : Hid (Bk W9 w.heap.size 50 #[.bool false, .string ⟨#[]⟩, .slice none 0 0]) := by rw [← hW9]; exact (kk.far (by simp; omega) _).far (by simp; omega) _
      have OK : Hid (Bk W9 ob 50 #[.bool fd, .string (ofL bt), .slice A k c]) := by rw [← hW9]; exact (ok.far (by simp; omega) _).far (by simp; omega) _
      have AK : Hid (Apd W9 (ob + 1) 62 2 A k c (flat flC fs)) := by rw [← hW9]; exact (ak.setCell (by simp; omega) _).setCell (by simp; omega) _
      have BK : Hid (Below w.heap.size w W9) := by rw [← hW9]; exact below_set2 bk (by omega) _ _
      have o2 := OK.out.cell 2; simp at o2
      clear rk kk ok ak bk nk hb7 b7 HN7 n0 n1 hW6 hK hR hO hAp hBel
      have HZ9 := Lib.hid zW9
      clear zW9
      go_wp2_with (at_builtin; refine halt_ ?_)
      refine unhalt ?_
      refine wpList_append_apd (P := Tryz.prog) _ rfl (.tmp 58) (.tmp 62) 25 rfl 62 i0 _ 32 Tryz.underlying25 Hi.out Hz0.out Hz1.out Hz2.out rfl (by decide) A k c (flat flC fs) rfl (AK.out.below ((Below.refl _ _).alloc (Nat.le_refl _) _)) _ (some ⟨W9.heap.size, 0, none⟩) 1 1 (flat flC [(ofL t1, ofL t2)]) rfl (Sl.of_bk (Bk.new W9 _ _) rfl) (oneCells_fl _) (by unfold maxLen; omega) (by omega) (by have := HZ9.out; simp; omega) ?_
      intro A2 c2 w12 a12 hb12 _ _ _
      have hzz := HZ9.out
      have P1 := Lib.hid ((KK.out.alloc _).below hb12 (by omega))
      have P2 := Lib.hid ((RK.out.alloc _).below hb12 (by omega))
      have P3 := Lib.hid ((OK.out.alloc _).below hb12 (by omega))
      have g2 := P3.out.cell 2; simp at g2
      have f2 := P3.out.free 2
      have hz12 : ob + 1 ≤ w12.heap.size := by have := hb12.size; simp at this; omega
      have PB : Hid (Below w.heap.size w w12) := (BK.out.alloc BK.out.size _).trans (hb12.mono (by omega))
      have PA : Hid (Apd w12 (ob + 1) 62 2 A2 (k + 1) c2 (flat flC (fs ++ [(ofL t1, ofL t2)]))) := by show Apd _ _ _ _ _ _ _ _; rw [flat_append]; exact a12
      clear a12 hb12 hzz o2 p0 p1 q0 q1 f0 f1 hW9 hW8
      go_wp2_with fail
      go_roundw
      case rel =>
        refine ⟨k + 1, A2, c2, by omega, by go_num, P1.out.far (by simp; omega) _, ?_, ?_, ?_, PB.out.setCell (p := ⟨ob, 2, none⟩) (by show w.heap.size ≤ ob; omega) _, by have e : ∀ u, (w12.setCell ⟨ob, 2, none⟩ u).heap.size = w12.heap.size := fun u => bk_size rfl; rw [e]; exact hz12⟩
        · rw [HKS.out]; exact P2.out.far (by simp; omega) _
        · have := P3.out.set 2 (.slice A2 (k + 1) c2); show Bk _ _ _ _; simpa using this
        · rw [HKS.out]; exact PA.out.setCell (by simp) _
      case measure => simp [intOf]; omega
    · have hNO : ∀ o, DecP (toL s) o → o = (fd, ofL bt, fs) ∧ r0 = [] ∧ b0 = false := fun o ho => by
        obtain ⟨a1, a2, a3, a4⟩ := HRK.out o ho
        simp only [Prod.mk.injEq] at a4
        have hkc : k = cn := by
          rcases Nat.lt_or_ge k cn with h | h
          · exact absurd ⟨h, a4.2.2⟩ hgo
          · omega
        have e1 : o.2.2.take k = o.2.2 := List.take_of_length_le (by omega)
        have e2 : o.2.2.drop k = [] := List.drop_of_length_le (by omega)
        rw [e1] at a4
        rw [e2] at a4
        refine ⟨?_, a4.2.1, a4.2.2⟩
        rw [← a1, ← a2, a4.1]
      have HNO := Lib.hid hNO
      have hcond : (decide ((k : Int) < (cn : Int)) && !b0) = false := by
        cases b0 with
        | true => simp
        | false =>
          have : ¬ (k < cn) := fun h => hgo ⟨h, rfl⟩
          simp; omega
      have hfl := yk.2.2
      have HFL := Lib.hid hfl
      have hlen := yk.2.1
      clear hNO HKS HRK HRO hgo hfl
      have y0 := hO.out.cell 0; have y1 := hO.out.cell 1; have y2 := hO.out.cell 2; simp at y0 y1 y2
      have HEN := Lib.hid (rencodeOutput_any fd (ofL bt) A k c wr.heap.size fs wr hAp.out.sl (Nat.le_refl _) (by unfold maxLen; omega) (fun f hf => by have := (HFL.out f hf).1; unfold maxLen; omega))
      by_cases hlt : k < cn
      · have hlz : (k : Int) < (cn : Int) := by omega
        obtain rfl : b0 = true := by
          cases b0 with
          | true => rfl
          | false => simp [hlz] at hcond
        clear hcond
        go_wp2_with fail
        refine HEN.out.mono ?_
        rintro e w9 ⟨rfl, hb9⟩
        have hz9 := hb9.size
        have Q1 := Lib.hid (hK.out.below hb9 (by omega)); have Q2 := Lib.hid (hR.out.below hb9 (by omega)); have Q3 := Lib.hid (hO.out.below hb9 (by omega))
        have QA := Lib.hid (hAp.out.below hb9)
        have QB : Hid (Below w.heap.size w w9) := hBel.out.trans (hb9.mono hBel.out.size)
        clear x0 x1 y0 y1 y2 hb9 HEN hK hR hO hAp hBel
        have x0 := Q2.out.cell 0; have x1 := Q2.out.cell 1; simp at x0 x1
        have y0 := Q3.out.cell 0; have y1 := Q3.out.cell 1; have y2 := Q3.out.cell 2; simp at y0 y1 y2
        have v0 := Q1.out.cell 0; have v1 := Q1.out.cell 1; have v2 := Q1.out.cell 2; simp at v0 v1 v2
        have f0 := Q1.out.free 0; have f1 := Q1.out.free 1; have f2 := Q1.out.free 2
        have HN : Hid (∀ o, ¬ DecP (toL s) o) := fun o ho => by have := (HNO.out o ho).2.2; cases this
        generalize encOR fd (ofL bt) fs = ee at *
        go_wp2_with fail
        exact bodyPost_ret (res_cellO Tryz.results25 rfl (Q1.out.set3 _ _ _) rfl) rfl (decEnd_no rfl (below_set3 QB.out (Nat.le_refl _) _ _ _) HN.out)
      · have hlz : ¬ (k : Int) < (cn : Int) := by omega
        clear hcond
        go_wp2_with fail
        refine HEN.out.mono ?_
        rintro e w9 ⟨rfl, hb9⟩
        have hz9 := hb9.size
        have Q1 := Lib.hid (hK.out.below hb9 (by omega)); have Q2 := Lib.hid (hR.out.below hb9 (by omega)); have Q3 := Lib.hid (hO.out.below hb9 (by omega))
        have QA := Lib.hid (hAp.out.below hb9)
        have QB : Hid (Below w.heap.size w w9) := hBel.out.trans (hb9.mono hBel.out.size)
        clear x0 x1 y0 y1 y2 hb9 HEN hK hR hO hAp hBel
        have x0 := Q2.out.cell 0; have x1 := Q2.out.cell 1; simp at x0 x1
        have y0 := Q3.out.cell 0; have y1 := Q3.out.cell 1; have y2 := Q3.out.cell 2; simp at y0 y1 y2
        have v0 := Q1.out.cell 0; have v1 := Q1.out.cell 1; have v2 := Q1.out.cell 2; simp at v0 v1 v2
        have f0 := Q1.out.free 0; have f1 := Q1.out.free 1; have f2 := Q1.out.free 2
        cases b0 with
        | true =>
          have HN : Hid (∀ o, ¬ DecP (toL s) o) := fun o ho => by have := (HNO.out o ho).2.2; cases this
          generalize encOR fd (ofL bt) fs = ee at *
          go_wp2_with fail
          exact bodyPost_ret (res_cellO Tryz.results25 rfl (Q1.out.set3 _ _ _) rfl) rfl (decEnd_no rfl (below_set3 QB.out (Nat.le_refl _) _ _ _) HN.out)
        | false =>
          have hem := str_empty (ofL r0)
          rw [size_ofL] at hem
          by_cases hr : r0.length = 0
          · rw [decide_eq_true hr] at hem
            have HNO' : Hid (∀ o, DecP (toL s) o → o = (fd, ofL bt, fs)) := fun o ho => (HNO.out o ho).1
            have HEV : Hid (encOR fd (ofL bt) fs = if chkO fd (ofL bt) fs = 0 then (encO fd (ofL bt) fs, 0) else ([], chkO fd (ofL bt) fs)) := rfl
            by_cases hc : chkO fd (ofL bt) fs = 0
            · have HC := Lib.hid hc
              have hev : encOR fd (ofL bt) fs = (encO fd (ofL bt) fs, 0) := by rw [HEV.out, if_pos hc]
              rw [hev]
              clear hc hev HEV
              have hsd := str_dec (ofL (encO fd (ofL bt) fs)) s
              by_cases hq : ofL (encO fd (ofL bt) fs) = s
              · rw [decide_eq_true hq] at hsd
                have HD : Hid (DecP (toL s) (fd, ofL bt, fs)) := ⟨HC.out, by rw [← hq, toL_ofL]⟩
                clear hq
                go_wp2_with fail
                refine bodyPost_ret (res_cellO Tryz.results25 rfl (Q1.out.set3 _ _ _) rfl) rfl ?_
                exact ⟨fd, ofL bt, A, k, c, fs, 0, rfl, (((QA.out.setCell (by simp; omega) _).setCell (by simp; omega) _).setCell (by simp; omega) _).sl, by unfold maxLen; omega, below_set3 QB.out (Nat.le_refl _) _ _ _, .inl ⟨rfl, HD.out⟩⟩
              · rw [decide_eq_false hq] at hsd
                have HN : Hid (∀ o, ¬ DecP (toL s) o) := fun o ho => by
                  have e1 := HNO'.out o ho
                  subst e1
                  exact hq (by rw [ho.2, ofL_toL])
                clear hq
                go_wp2_with fail
                exact bodyPost_ret (res_cellO Tryz.results25 rfl (Q1.out.set3 _ _ _) rfl) rfl (decEnd_no rfl (below_set3 QB.out (Nat.le_refl _) _ _ _) HN.out)
            · have hev : encOR fd (ofL bt) fs = ([], chkO fd (ofL bt) fs) := by rw [HEV.out, if_neg hc]
              have hcb : (chkO fd (ofL bt) fs != 0) = true := by rw [bne_iff_ne]; exact hc
              have HN : Hid (∀ o, ¬ DecP (toL s) o) := fun o ho => by
                have e1 := HNO'.out o ho
                subst e1
                exact hc ho.1
              rw [hev]
              clear hc hev HEV
              go_wp2_with fail
              exact bodyPost_ret (res_cellO Tryz.results25 rfl (Q1.out.set3 _ _ _) rfl) rfl (decEnd_no rfl (below_set3 QB.out (Nat.le_refl _) _ _ _) HN.out)
          · rw [decide_eq_false hr] at hem
            have HN : Hid (∀ o, ¬ DecP (toL s) o) := fun o ho => by have := (HNO.out o ho).2.1; rw [this] at hr; exact hr rfl
            clear hr
            generalize encOR fd (ofL bt) fs = ee at *
            go_wp2_with fail
            exact bodyPost_ret (res_cellO Tryz.results25 rfl (Q1.out.set3 _ _ _) rfl) rfl (decEnd_no rfl (below_set3 QB.out (Nat.le_refl _) _ _ _) HN.out)
end Go.Proofs.YtiphbincnnppdaaGreatDoor

namespace Go.Proofs.YtiphbincnnppdaaGreatDoor
open Go.RowKit Go.Maps
attribute [local go_sem] Oper.semAt_some

/-- what Deps answers -/
def FndR (ts : List Tg) (lab : ByteArray) (l : List ByteArray) (err : Int) : Prop :=
  (¬ Vld ts ∧ l = [] ∧ err = 1) ∨ (Vld ts ∧ isT ts lab = false ∧ l = [] ∧ err = 8) ∨ (Vld ts ∧ isT ts lab = true ∧ err = 0 ∧ Asc l ∧ ∀ x, x ∈ l ↔ Rch (nxT ts) lab x)
def FndEnd (ts : List Tg) (lab : ByteArray) (w : World) (e : Ending) (w' : World) : Prop :=
  ∃ A n c l err, e = .returned (.tuple #[.slice A n c, .int .i64 err]) ∧ Sl w' w'.heap.size 1 A n (strs l) ∧ n ≤ c ∧ c ≤ maxLen ∧ Below w.heap.size w w' ∧ FndR ts lab l err
theorem FndEnd.none_ {ts : List Tg} {lab : ByteArray} {w w' : World} {err : Int} (h : FndR ts lab [] err) (hb : Below w.heap.size w w') : FndEnd ts lab w (.returned (.tuple #[.slice none 0 0, .int .i64 err])) w' :=
  ⟨none, 0, 0, [], err, rfl, Sl.nil _ _ _ _, Nat.le_refl _, Nat.zero_le _, hb, h⟩
theorem resultsFnd {w : World} {a : Array Value} {v u : Value} (ha : a[6]?.getD undef = v) (hu : a[7]?.getD undef = u) : (results Tryz.f75 a).run Tryz.prog w = .ok (.tuple #[v, u]) w := by
  simp [results, Tryz.results75, ha, hu, go_sem]
/-- a row of strings is none of the struct's rows -/
theorem own_row {W : World} {base size n : Nat} {e : TypeId} {v : Value} {xs : List Value} (h : W.ownsRow base e size v n xs) {k : Nat} (hk : v.ownBlock = some k) : base ≤ k ∧ ∃ cur, W.heap[k]? = some (.cells cur e (0, 0)) := by
  rcases h.2 with ⟨rfl, _⟩ | ⟨g, cap, cur, rfl, h1, h2, _⟩
  · cases hk
  · cases hk; exact ⟨h1, cur, h2⟩
theorem own_keep {W W' : World} {base size n : Nat} {e : TypeId} {v : Value} {xs : List Value} (h : W.ownsRow base e size v n xs) (hk : ∀ k, v.ownBlock = some k → W'.heap[k]? = W.heap[k]?) : W'.ownsRow base e size v n xs := by
  refine ⟨h.1, ?_⟩
  rcases h.2 with h0 | ⟨g, cap, cur, rfl, h1, h2, h3⟩
  · exact .inl h0
  · exact .inr ⟨g, cap, cur, rfl, h1, (hk g rfl).trans h2, h3⟩

set_option maxRecDepth 100000 in
set_option maxHeartbeats 4000000 in
theorem find_any (A : Option Addr) (n c B : Nat) (ts : List Tg) (lab : ByteArray) (w : World) (h0 : Sl w B 4 A n (flat tgC ts)) (hok : ∀ t ∈ ts, TgOk w B t) (hB : B ≤ w.heap.size) (hnc : n ≤ c) (hcm : c ≤ maxLen) (hls : lab.size ≤ maxLen) :
    Calls Tryz.prog 75 #[.agg #[.slice A n c], .string lab, .bool false] w (FndEnd ts lab w) := by
  refine (callsIn_wide (n := 6)).1 ?_
  have hf1 : Fence.wide.fn 94 := trivial
  have hf2 : Fence.wide.fn 92 := trivial
  have hf3 : Fence.wide.fn 93 := trivial
  have hf4 : Fence.wide.fn 91 := trivial
  have hf5 : Fence.wide.fn 55 := trivial
  have HTL := Lib.hid (h0.len tgC_len (by omega))
  have H0 := Lib.hid h0; have HOK := Lib.hid hok
  clear h0 hok
  have HB0 : Hid (Below w.heap.size w (w.alloc (.cells #[.slice A n c] 24))) := (Below.refl _ w).alloc (Nat.le_refl _) _
  have HG0 : Hid ((w.alloc (.cells #[.slice A n c] 24)).heap[w.heap.size]? = some (.cells #[.slice A n c] 24 (0, 0))) := World.alloc_heap_new w _
  refine callsIn_of_wp_marks Tryz.func75 rfl trivial ?_ rfl
  simp only [Tryz.ntmps75, List.size_toArray, List.length_cons, List.length_nil, Nat.reduceAdd, Nat.reduceSub, Array.replicate_succ, Array.replicate_zero, List.push_toArray, List.append_toArray, List.nil_append, List.cons_append]
  have HV1 := Lib.hid (valid_any A n c B ts (w.alloc (.cells #[.slice A n c] 24)) (H0.out.below HB0.out hB) (fun t ht => (HOK.out t ht).below HB0.out hB) (by simp; omega) hnc hcm)
  gi_wp2_with (gi_at_call 91; refine (callsIn_wide.2 HV1.out).mono ?_; rintro e w1 ⟨r, rfl, hr, hb1⟩; refine halt_ ?_)
  refine unhalt ?_
  have HR := Lib.hid hr
  have HB1 : Hid (Below w.heap.size w w1) := HB0.out.trans (hb1.mono (by simp))
  have HG1 : Hid (w1.heap[w.heap.size]? = some (.cells #[.slice A n c] 24 (0, 0))) := (hb1.block _ (by simp)).trans HG0.out
  have hz1 : w.heap.size < w1.heap.size := by have := hb1.size; simp at this; omega
  have x0 := cell_of_one HG1.out
  clear hr hb1 HV1 HG0
  cases r with
  | false =>
    have HF : Hid (FndR ts lab [] 1) := .inl ⟨fun h => (by have := HR.out.2 h; cases this), rfl, rfl⟩
    gi_wp2
    exact ⟨_, resultsFnd rfl rfl, FndEnd.none_ HF.out HB1.out⟩
  | true =>
    have HVL := Lib.hid (HR.out.1 rfl)
    have hn100 : n ≤ 100 := by have := HVL.out.few; rw [HTL.out] at this; exact this
    have HDM : Hid (∀ t ∈ ts, t.deps.length ≤ 20) := fun t ht => (HVL.out.all t ht).few
    clear HR
    have HI := Lib.hid (index_any A n c B ts w1 (H0.out.below HB1.out hB) (by omega) (by omega) (fun t ht => (HOK.out t ht).ls))
    gi_wp2_with (gi_at_call 92; refine (callsIn_wide.2 HI.out).mono ?_; rintro e w2 ⟨rfl, hM, hb2⟩; refine halt_ ?_)
    refine unhalt ?_
    have HM := Lib.hid hM
    have HB2 : Hid (Below w.heap.size w w2) := HB1.out.trans (hb2.mono (by omega))
    have hz2 : w1.heap.size < w2.heap.size := HM.out.lt
    clear hM hb2 HI x0 HG1
    have hlk := HM.out.look_ok Tryz.underlying9 Tryz.underlying132 (Tryz.zeroValue60 _) hls
    rw [idxG_some] at hlk
    obtain ⟨lv, hlv⟩ : ∃ lv, (idxG ts lab).getD (.agg #[.string ⟨#[]⟩, .int .i64 0, .slice none 0 0, .slice none 0 0]) = lv := ⟨_, rfl⟩
    have hlf : ∃ s0 k1 A2 n2 c2 A3 n3 c3, lv = .agg #[.string s0, .int .i64 k1, .slice A2 n2 c2, .slice A3 n3 c3] := by
      rw [← hlv]; unfold idxG
      cases findT ts lab with
      | none => exact ⟨_, _, _, _, _, _, _, _, rfl⟩
      | some t => exact ⟨_, _, _, _, _, _, _, _, rfl⟩
    obtain ⟨s0, k1, A2, n2, c2, A3, n3, c3, rfl⟩ := hlf
    rw [hlv] at hlk
    clear hlv
    cases hs : isT ts lab with
    | false =>
      have HF : Hid (FndR ts lab [] 8) := .inr (.inl ⟨HVL.out, hs, rfl, rfl⟩)
      rw [hs] at hlk
      clear hs
      gi_wp2
      exact ⟨_, resultsFnd rfl rfl, FndEnd.none_ HF.out (HB2.out.alloc (by omega) _)⟩
    | true =>
      have HS := Lib.hid hs
      rw [hs] at hlk
      clear hs
      have HBT : Hid (Below w.heap.size w (w2.alloc (.cells #[.string s0, .int .i64 k1, .slice A2 n2 c2, .slice A3 n3 c3] 60))) := HB2.out.alloc (by omega) _
      have HE1 := Lib.hid (edges_any w1.heap.size n 20 B ts (w2.alloc (.cells #[.string s0, .int .i64 k1, .slice A2 n2 c2, .slice A3 n3 c3] 60)) (HM.out.alloc _) (fun t ht => (HOK.out t ht).below HBT.out hB) (by simp; omega) (by omega) HDM.out (by omega))
      gi_wp2_with (gi_at_call 93; refine (callsIn_wide.2 HE1.out).mono ?_; rintro e w3 ⟨rfl, gd, gu, L, hE, hLd, hLu, hb3⟩; refine halt_ ?_)
      refine unhalt ?_
      have HND : Hid (Nxm w3 w3.heap.size (w2.heap.size + 1) 2000000 gd (nxT ts)) := by
        have := hE.nxmD hLd
        rw [World.size_alloc] at this
        exact this
      have HBW : Hid (Below w.heap.size w w3) := HBT.out.trans (hb3.mono (by simp; omega))
      have hz3 : w2.heap.size + 1 < w3.heap.size := HND.out.lt
      have HU : Hid (∀ x, ∀ y ∈ nxT ts x, y ∈ ts.map Tg.lab) := fun x y hy => (isT_iff ts y).1 (nxT_mem hy).1
      have HUl : Hid ((ts.map Tg.lab).length ≤ 1000) := by show _ ≤ _; rw [List.length_map, HTL.out]; omega
      have HUs : Hid (∀ y ∈ ts.map Tg.lab, y.size ≤ maxLen) := fun y hy => by
        obtain ⟨t, ht, rfl⟩ := List.mem_map.1 hy
        exact (HOK.out t ht).ls
      clear hE hLd hLu hb3 HE1 HM HB1 HB2 H0 HBT hlk
      gi_wp2_with (gi_at_call 94; refine (callsIn_wide.2 (reached_any _ _ _)).mono ?_; rintro e w' ⟨rfl, rfl⟩)
      obtain ⟨W1, hW1⟩ : ∃ W1, w3.alloc (.cells #[.slice none 0 0] 58) = W1 := ⟨_, rfl⟩
      have hy1 : W1.heap.size = w3.heap.size + 1 := by rw [← hW1]; simp
      have hbb : Below w3.heap.size w3 W1 := by rw [← hW1]; exact (Below.refl _ w3).alloc (Nat.le_refl _) _
      have g1 : W1.heap[w3.heap.size]? = some (.cells #[.slice none 0 0] 58 (0, 0)) := by rw [← hW1]; exact World.alloc_heap_new w3 _
      have hnx : NxR ((W1.alloc (.cells #[.map (some (w2.heap.size + 1))] 135)).alloc (.cells #[.string lab] 9)) Tryz.prog 9 135 w3.heap.size (w3.heap.size + 1 + 1) (w3.heap.size + 1) (w2.heap.size + 1) 2000000 lab gd (nxT ts) := by
        have := (HND.out.below hbb (Nat.le_refl _)).boxed (by omega) lab
        rw [hy1] at this; exact this
      rw [hW1]
      obtain ⟨W2, hW2⟩ : ∃ W2, (W1.alloc (.cells #[.map (some (w2.heap.size + 1))] 135)).alloc (.cells #[.string lab] 9) = W2 := ⟨_, rfl⟩
      have hy2 : W2.heap.size = w3.heap.size + 3 := by rw [← hW2]; simp; omega
      have hb12 : Below W1.heap.size W1 W2 := by rw [← hW2]; exact ((Below.refl _ W1).alloc (Nat.le_refl _) _).alloc (by simp) _
      have hb2 : Below w3.heap.size w3 W2 := hbb.trans (hb12.mono (by omega))
      replace g1 := (hb12.block w3.heap.size (by omega)).trans g1
      rw [hW2] at hnx ⊢
      clear hW1 hW2 hb12 hbb hy1 W1
      refine wpIn_rangeT (α := ByteArray × Nat) (F := Fence.wide) (n := 6) rfl (by omega) (gf := 122) (lb := #[.pointer (some ⟨w3.heap.size + 1 + 1, 0, none⟩), .pointer (some ⟨w3.heap.size + 1, 0, none⟩)]) rfl trivial (enters_of Tryz.func122 (by kernel_rfl) rfl)
        (reached_st 5 (by omega) w3.heap.size (w3.heap.size + 1 + 1) (w3.heap.size + 1) (w2.heap.size + 1) 2000000 (W2.heap.size + 2) lab gd (nxT ts) (ts.map Tg.lab) W2 hnx (by omega) (by omega) (by omega) (by omega) HU.out HUl.out HUs.out hls) KeepR.trans (fun W l r o' hl hlr => keepR_put W l r o' hlr (by omega) (by omega)) (fun A C h hA => stepR_rec h rfl hA) (Below.refl _ _) (fun _ => rfl)
        (fun pre W => ∃ Aq cq, W.heap[w3.heap.size]? = some (.cells #[.slice Aq pre.length cq] 58 (0, 0)) ∧ W.ownsRow (W2.heap.size + 3) 9 1 (.slice Aq pre.length cq) pre.length (strs (pre.map Prod.fst)) ∧ Below w3.heap.size w3 W ∧ w3.heap.size + 3 ≤ W.heap.size)
        (fun _ _ _ => False)
        ?hI ?hIx ?hIS ⟨none, 0, g1, World.ownsRow_nil _ _ _ _, hb2, by omega⟩ ?a1 ?assign ?body ?done ?stop
      case assign =>
        intro l y W K hK
        have HKK := Lib.hid hK
        clear hK
        gi_wp2
        exact HKK.out
      case hI =>
        rintro pre A C row ⟨Aq, cq, h0, h1, h2, h3⟩ hg hr
        refine ⟨Aq, cq, one_grown h0 hg (fun e => ?_), h1.kept hg ?_, h2.grown hg h2.size (fun k e => ?_), Nat.le_trans h3 hg.size⟩
        · have := (hr _ e.symm).1; omega
        · cases hv : (Value.slice Aq pre.length cq).ownBlock with
          | none => exact .inl rfl
          | some k =>
            refine .inr fun e => ?_
            obtain ⟨_, cur, hcur⟩ := own_row h1 hv
            obtain ⟨_, o, ho, hc⟩ := hr _ e.symm
            rw [hcur] at ho; cases ho; cases hc
        · have := (hr _ e).1; omega
      case hIx => rintro c pre A C row hf _ _; exact hf
      case hIS =>
        rintro pre A C ⟨Aq, cq, h0, h1, h2, h3⟩ hs
        refine ⟨Aq, cq, (hs.block _ (by omega) (.inl (by omega))).trans h0, own_keep h1 (fun k hk => ?_), hs.below h2 (by omega) (by omega), Nat.le_trans h3 hs.size⟩
        obtain ⟨hbk, cur, hcur⟩ := own_row h1 hk
        exact hs.block k (Array.getElem?_eq_some_iff.1 hcur).1 (.inr ⟨by omega, by rw [hcur]; show ¬ (_ = _); decide⟩)
      case stop => rintro D c pre W hD hS hf hK; exact hf.elim
      case body =>
        rintro l pre y W hpf hWz ⟨Aq, cq, h0, h1, h2, h3⟩
        have c0 := cell_of_one h0
        have f0 := free_of_one h0
        have H0 := Lib.hid h0; have H1 := Lib.hid h1; have H2 := Lib.hid h2
        have hpl := hpf.len HU.out
        have HUl' := HUl.out
        obtain ⟨y, ky⟩ := y
        simp only [List.length_append, List.length_cons, List.length_nil] at hpl
        obtain ⟨i0, hi, hz0, hz1', hz2'⟩ := info_parts infoStr
        have Hi := Lib.hid hi; have Hz0 := Lib.hid hz0; have Hz1 := Lib.hid hz1'; have Hz2 := Lib.hid hz2'
        clear h0 h1 h2 g1 hb2 hnx hpf hi hz0 hz1' hz2'
        gi_wp2_with (gi_at_builtin; refine halt_ ?_)
        refine unhalt ?_
        refine wpListIn_append_sl (base := W2.heap.size + 3) (size := 1) rfl (.tmp 41) (.tmp 43) 58 rfl 9 i0 _ 16 Tryz.underlying58 Hi.out Hz0.out Hz1.out Hz2.out rfl (by decide) (.slice Aq pre.length cq) pre.length (strs (pre.map Prod.fst)) rfl ?own (W.heap.size + 1) _ 1 _ [.string y] rfl ?nw (by simp [Value.oneCell']) ?l1 ?l2 ?l3 ?_
        case own => exact H1.out.kept (World.grownBy_alloc W _ none) (by cases hv : (Value.slice Aq pre.length cq).ownBlock with | none => exact .inl rfl | some k => exact .inr (by simp))
        case nw => exact ⟨rfl, fun _ => ⟨W.heap.size, 0, rfl, Nat.lt_succ_self _, fun j u hu => by have := new_cell W 9 y j u hu; rwa [Addr.add_lit] at this⟩⟩
        case l1 => unfold maxLen; omega
        case l2 => omega
        case l3 => simp; omega
        intro A4 c4 w4 ho4 hg4 hc41 hc42
        have HO4 : Hid (w4.ownsRow (W2.heap.size + 3) 9 1 (.slice A4 (pre.length + 1) c4) (pre.length + 1) (strs ((pre ++ [(y, ky)]).map Prod.fst))) := by
          show World.ownsRow _ _ _ _ _ _ _
          have e : strs ((pre ++ [(y, ky)]).map Prod.fst) = strs (pre.map Prod.fst) ++ [.string y] := by simp [strs]
          rw [e]; exact ho4
        have HGE : Hid (∀ k, (Value.slice Aq pre.length cq).ownBlock = some k → W2.heap.size + 3 ≤ k ∧ ∃ cur, W.heap[k]? = some (.cells cur 9 (0, 0))) := fun k hk => own_row H1.out hk
        have HX4 : Hid (w4.heap[w3.heap.size]? = some (.cells #[.slice Aq pre.length cq] 58 (0, 0))) := one_grown ((Below.heap_alloc W _ _ (by omega)).trans H0.out) hg4 (fun e => by have := (HGE.out _ e.symm).1; omega)
        have c4' := cell_of_one HX4.out
        have f4' := free_of_one HX4.out
        have hz4 : W.heap.size + 1 ≤ w4.heap.size := by have := hg4.size; simp at this; omega
        have HB4 : Hid (Below w3.heap.size w3 w4) := (H2.out.alloc (by omega) _).grown hg4 (by simp; omega) (fun k hk => by have := (HGE.out k hk).1; omega)
        have HK4 : Hid (∀ k, k < W.heap.size → (Value.slice Aq pre.length cq).ownBlock ≠ some k → w4.heap[k]? = W.heap[k]?) := fun k hk hne => (hg4.block k (by simp; omega) (fun e => hne e.symm)).trans (Below.heap_alloc W _ _ hk)
        clear ho4 hg4 c0 f0
        gi_wp2
        have HS : Hid (∀ k, k < W.heap.size → (Value.slice Aq pre.length cq).ownBlock ≠ some k → k ≠ w3.heap.size → (w4.setCell ⟨w3.heap.size, 0, none⟩ (.slice A4 (pre.length + 1) c4)).heap[k]? = W.heap[k]?) := fun k hk hne hk3 => (Below.heap_setCell _ _ _ _ hk3).trans (HK4.out k hk hne)
        refine ⟨⟨HS.out _ (by omega) (fun e => by have := (HGE.out _ e).1; omega) (by omega), HS.out _ (by omega) (fun e => by have := (HGE.out _ e).1; omega) (by omega)⟩, ⟨by simp; omega, fun k hk hc => ?_⟩, A4, c4, ?_, ?_, ?_, ?_⟩
        · refine HS.out k hk (fun e => ?_) (fun e => ?_)
          · obtain ⟨h5, cur, h6⟩ := HGE.out k e
            rcases hc with h | h | h
            · omega
            · rw [h6] at h; revert h; show ¬ (_ = _); decide
            · omega
          · subst e
            rcases hc with h | h | h
            · omega
            · rw [H0.out] at h; revert h; show ¬ (_ = _); decide
            · omega
        · rw [List.length_append]; exact one_setCell HX4.out
        · rw [List.length_append]; exact ownsRow_setCell_below HO4.out (by simp; omega) _
        · exact HB4.out.setCell (p := ⟨w3.heap.size, 0, none⟩) (by simp) _
        · simp; omega
      case done =>
        rintro D xs W hD ⟨hgot, hS⟩ ⟨Aq, cq, h0, h1, h2, h3⟩ hK
        have c0 := cell_of_one h0
        have HE : Hid (Asc (srtB (xs.map Prod.fst)) ∧ ∀ x, x ∈ srtB (xs.map Prod.fst) ↔ Rch (nxT ts) lab x) := ⟨srtB_asc hgot.nodup, fun x => by rw [srtB_mem, hS x]⟩
        have hpl := hgot.len HU.out
        have HUl' := HUl.out
        have H0 := Lib.hid h0; have H1 := Lib.hid h1; have HK := Lib.hid hK; have H2 := Lib.hid h2
        clear h0 h1 h2 hK hgot hS g1 hb2 hnx
        have HSO := Lib.hid (sort_any (W2.heap.size + 3) xs.length cq Aq (xs.map Prod.fst) W H1.out (by omega))
        gi_wp2_with (gi_at_call 55; refine (callsIn_wide.2 HSO.out).mono ?_; rintro e w5 ⟨rfl, hs1, hs2⟩; refine halt_ ?_)
        refine unhalt ?_
        have HO5 := Lib.hid hs1
        have HX5 : Hid (w5.heap[w3.heap.size]? = some (.cells #[.slice Aq xs.length cq] 58 (0, 0))) := one_grown H0.out hs2 (fun e => by have := (own_row H1.out e.symm).1; omega)
        have c5 := cell_of_one HX5.out
        have HB5 : Hid (Below w3.heap.size w3 w5) := H2.out.grown hs2 H2.out.size (fun k hk => by have := (own_row H1.out hk).1; omega)
        have HD5 : Hid (w5.heap[D]? = some (.deferred (some []))) := (hs2.block D (Array.getElem?_eq_some_iff.1 HK.out).1 (fun e => by
          obtain ⟨_, cur, h6⟩ := own_row H1.out e.symm
          rw [HK.out] at h6; cases h6)).trans HK.out
        clear hs1 hs2 HSO H0 HK c0
        gi_wp2
        refine ⟨by simp, .inl ⟨_, _, rfl, run_takeDeferred HD5.out, ?_⟩⟩
        have HBE : Hid (Below w3.heap.size w3 (w5.putObj D (.deferred none))) := HB5.out.grown (grownBy_putObj' _ _ _) HB5.out.size (fun k e => by cases e; omega)
        obtain ⟨_, _, hform, hl1, hl2⟩ := ownsRow_form HO5.out
        injection hform with _ _ hcc
        subst hcc
        refine ⟨_, resultsFnd rfl rfl, Aq, xs.length, cq, srtB (xs.map Prod.fst), 0, rfl, ?_, hl1, hl2, HBW.out.trans (HBE.out.mono HBW.out.size), .inr (.inr ⟨HVL.out, HS.out, rfl, HE.out.1, HE.out.2⟩)⟩
        exact Sl.of_own (own_keep HO5.out (fun k hk => World.putObj_heap_other (fun e => by
          obtain ⟨_, cur, h6⟩ := own_row HO5.out hk
          subst e
          rw [HD5.out] at h6; cases h6)))
set_option maxHeartbeats 400000 in
theorem deps_any (A : Option Addr) (n c B : Nat) (ts : List Tg) (lab : ByteArray) (w : World) (h0 : Sl w B 4 A n (flat tgC ts)) (hok : ∀ t ∈ ts, TgOk w B t) (hB : B ≤ w.heap.size) (hnc : n ≤ c) (hcm : c ≤ maxLen) (hls : lab.size ≤ maxLen) :
    Calls Tryz.prog 52 #[.agg #[.slice A n c], .string lab] w (FndEnd ts lab w) := by
  have HB0 : Hid (Below w.heap.size w (w.alloc (.cells #[.slice A n c] 24))) := (Below.refl _ w).alloc (Nat.le_refl _) _
  have HF := Lib.hid (find_any A n c B ts lab (w.alloc (.cells #[.slice A n c] 24)) (h0.below HB0.out hB) (fun t ht => (hok t ht).below HB0.out hB) (by simp; omega) hnc hcm hls)
  clear h0 hok
  go_enter Tryz.func52, Tryz.ntmps52
  go_wp2_with (go_at_call 75; refine HF.out.mono ?_; rintro e w1 ⟨A1, n1, c1, l, err, rfl, h1, h2, h3, h4, h5⟩)
  go_ret2
  exact ⟨A1, n1, c1, l, err, rfl, h1, h2, h3, HB0.out.trans (h4.mono (by simp)), h5⟩
end Go.Proofs.YtiphbincnnppdaaGreatDoor

namespace Go.Proofs.YtiphbincnnppdaaGreatDoor
open Go.RowKit Go.Maps

theorem findT_app : ∀ (a b : List Tg) (s : ByteArray), findT (a ++ b) s = match findT a s with | some x => some x | none => findT b s
  | [], b, s => by simp [findT]
  | r :: a, b, s => by
    simp only [List.cons_append, findT]
    by_cases e : r.lab = s
    · simp [e]
    · rw [if_neg e, if_neg e, findT_app a b s]
theorem findT_here {ts : List Tg} {s : ByteArray} {k : Nat} {t : Tg} (h : findT (ts.take k) s = none) (ht : ts[k]? = some t) (hs : t.lab = s) : findT ts s = some t := by
  have hk := List.getElem?_eq_some_iff.1 ht
  have e : ts = ts.take k ++ t :: ts.drop (k + 1) := by
    rw [← hk.2, List.getElem_cons_drop, List.take_append_drop]
  rw [e, findT_app, h]
  simp [findT, hs]
theorem findT_pass {ts : List Tg} {s : ByteArray} {k : Nat} {t : Tg} (h : findT (ts.take k) s = none) (ht : ts[k]? = some t) (hs : t.lab ≠ s) : findT (ts.take (k + 1)) s = none := by
  rw [take_snoc ht, findT_snoc, h]; simp [hs]

set_option maxHeartbeats 400000 in
theorem inputs1_any (t : Tg) (lab : ByteArray) (b : Nat) (w : World) (hc : w.cell? ⟨b, 0, none⟩ = some (.string lab)) (hb : b < w.heap.size) :
    Calls Tryz.prog 54 #[tgV t, .pointer (some ⟨b, 0, none⟩)] w fun e w' => e = .returned (.bool (decide (t.lab = lab))) ∧ Below w.heap.size w w' := by
  obtain ⟨tl, kind, dA, dn, dc, deps, vA, vn, vc, vis⟩ := t
  have HB0 : Hid (Below w.heap.size w (w.alloc (.cells #[.string tl, .int .i64 kind, .slice dA dn dc, .slice vA vn vc] 60))) := (Below.refl _ w).alloc (Nat.le_refl _) _
  have c0 := (HB0.out.cell (p := ⟨b, 0, none⟩) hb).trans hc
  have k0 := (Bk.new w 60 #[.string tl, .int .i64 kind, .slice dA dn dc, .slice vA vn vc]).cell 0
  simp only [List.getElem?_toArray, List.getElem?_cons_zero] at k0
  simp only [tgV]
  clear hc
  go_enter Tryz.func54, Tryz.ntmps54
  go_wp2
  go_ret
  exact ⟨ret_bool (str_dec tl lab), HB0.out⟩

set_option maxRecDepth 100000 in
set_option maxHeartbeats 1000000 in
theorem indexFunc_any (A : Option Addr) (n c B b : Nat) (ts : List Tg) (lab : ByteArray) (w : World) (h0 : Sl w B 4 A n (flat tgC ts)) (hB : B ≤ w.heap.size) (hn : n ≤ 1000000) (hc : w.cell? ⟨b, 0, none⟩ = some (.string lab)) (hb : b < w.heap.size) (hs : isT ts lab = true) :
    Calls Tryz.prog 53 #[.slice A n c, .func (.func 54) #[] #[.pointer (some ⟨b, 0, none⟩)]] w fun e w' => ∃ k t, e = .returned (.int .i64 (k : Nat)) ∧ k < n ∧ ts[k]? = some t ∧ findT ts lab = some t ∧ Below w.heap.size w w' := by
  have HL := Lib.hid (h0.len tgC_len (by omega))
  have H0 := Lib.hid h0; have HC := Lib.hid hc; have HS := Lib.hid hs
  clear h0 hc hs
  go_enter Tryz.func53, Tryz.ntmps53
  go_wp2
  go_loopw [8] (fun i wr => ∃ k : Nat, k ≤ n ∧ i = .int .i64 k ∧ Hid (findT (ts.take k) lab = none) ∧ Hid (Below w.heap.size w wr)) (fun i _ => n - (intOf i).toNat)
  case atStart => exact ⟨0, Nat.zero_le _, rfl, rfl, Below.refl _ _⟩
  case round =>
    obtain ⟨k, hk, rfl, hF, hBel⟩ := hrel
    by_cases hlt : k < n
    · obtain ⟨bb, off, t, rfl, hbB, ht, y0, y1, y2, y3⟩ := (H0.out.below hBel.out hB).tg hlt
      have hlz : (k : Int) < (n : Int) := by omega
      have hcr := (hBel.out.cell (p := ⟨b, 0, none⟩) hb).trans HC.out
      have HI := Lib.hid (inputs1_any t lab b wr hcr (Nat.lt_of_lt_of_le hb hBel.out.size))
      have HT := Lib.hid ht
      clear ht hcr
      by_cases e : t.lab = lab
      · have HE := Lib.hid (findT_here hF.out HT.out e)
        have hd : decide (t.lab = lab) = true := by simp [e]
        rw [hd] at HI
        clear e hd
        obtain ⟨tl, kind, dA, dn, dc, deps, vA, vn, vc, vis⟩ := t
        simp only [tgV] at HI y0 y1 y2 y3
        go_wp2_with (go_at_call 54; refine HI.out.mono ?_; rintro e w1 ⟨rfl, hb1⟩)
        go_ret
        exact ⟨k, _, rfl, hlt, HT.out, HE.out, hBel.out.trans (hb1.mono hBel.out.size)⟩
      · have HE := Lib.hid (findT_pass hF.out HT.out e)
        have hd : decide (t.lab = lab) = false := by simp [e]
        rw [hd] at HI
        clear e hd
        obtain ⟨tl, kind, dA, dn, dc, deps, vA, vn, vc, vis⟩ := t
        simp only [tgV] at HI y0 y1 y2 y3
        go_wp2_with (go_at_call 54; refine HI.out.mono ?_; rintro e w1 ⟨rfl, hb1⟩)
        go_roundw
        case rel => exact ⟨k + 1, by omega, by go_num, HE.out, hBel.out.trans (hb1.mono hBel.out.size)⟩
        case measure => simp [intOf]; omega
    · exfalso
      have h1 := hF.out
      rw [List.take_of_length_le (by rw [HL.out]; omega)] at h1
      have h2 := HS.out
      unfold isT at h2
      rw [h1] at h2; cases h2
end Go.Proofs.YtiphbincnnppdaaGreatDoor

namespace Go.Proofs.YtiphbincnnppdaaGreatDoor
open Go.RowKit Go.Maps

def sourceW : ByteArray := ⟨#[115, 111, 117, 114, 99, 101, 32]⟩
def ifaceW : ByteArray := ⟨#[105, 102, 97, 99, 101, 32]⟩
def codeW : ByteArray := ⟨#[99, 111, 100, 101, 32]⟩
def programW : ByteArray := ⟨#[112, 114, 111, 103, 114, 97, 109, 32]⟩
/-- an action of this kind is not made for the target -/
def BadK (kind : Int) (t : Tg) : Prop := kind ≠ 1 ∧ ((kind ≠ 2 ∧ kind ≠ 3) ∨ t.kind = 1)
/-- the names that an action reads -/
def InpMem (ts : List Tg) (t : Tg) (lab : ByteArray) (kind : Int) (x : ByteArray) : Prop :=
  (kind = 1 ∧ (x = sourceW ++ lab ∨ ∃ d ∈ t.deps, x = ifaceW ++ d)) ∨ (kind = 2 ∧ (x = codeW ++ lab ∨ ∃ d, Rch (nxT ts) lab d ∧ x = codeW ++ d)) ∨ (kind = 3 ∧ x = programW ++ lab)
def InpR (ts : List Tg) (lab : ByteArray) (kind : Int) (l : List ByteArray) (err : Int) : Prop :=
  (¬ Vld ts ∧ l = [] ∧ err = 1) ∨ (Vld ts ∧ isT ts lab = false ∧ l = [] ∧ err = 8) ∨
    (Vld ts ∧ ∃ t, findT ts lab = some t ∧ ((BadK kind t ∧ l = [] ∧ err = 9) ∨ (¬ BadK kind t ∧ err = 0 ∧ Asc l ∧ ∀ x, x ∈ l ↔ InpMem ts t lab kind x)))
theorem InpR.same {ts : List Tg} {lab : ByteArray} {kind : Int} {l m : List ByteArray} {e f : Int} (h : InpR ts lab kind l e) (g : InpR ts lab kind m f) : l = m ∧ e = f := by
  rcases h with ⟨h1, rfl, rfl⟩ | ⟨h1, h2, rfl, rfl⟩ | ⟨h1, t, h2, h3⟩
  · rcases g with ⟨_, rfl, rfl⟩ | ⟨g1, _⟩ | ⟨g1, _⟩
    · exact ⟨rfl, rfl⟩
    · exact absurd g1 h1
    · exact absurd g1 h1
  · rcases g with ⟨g1, _⟩ | ⟨_, _, rfl, rfl⟩ | ⟨_, t, g2, _⟩
    · exact absurd h1 g1
    · exact ⟨rfl, rfl⟩
    · unfold isT at h2; rw [g2] at h2; cases h2
  · rcases g with ⟨g1, _⟩ | ⟨_, g2, _⟩ | ⟨_, t', g2, g3⟩
    · exact absurd h1 g1
    · unfold isT at g2; rw [h2] at g2; cases g2
    · rw [h2] at g2; cases g2
      rcases h3 with ⟨h3, rfl, rfl⟩ | ⟨h3, rfl, h4, h5⟩
      · rcases g3 with ⟨_, rfl, rfl⟩ | ⟨g3, _⟩
        · exact ⟨rfl, rfl⟩
        · exact absurd h3 g3
      · rcases g3 with ⟨g3, _⟩ | ⟨_, rfl, g4, g5⟩
        · exact absurd g3 h3
        · exact ⟨asc_ext h4 g4 fun x => (h5 x).trans (g5 x).symm, rfl⟩
def InpEnd (ts : List Tg) (lab : ByteArray) (kind : Int) (w : World) (e : Ending) (w' : World) : Prop :=
  ∃ A n c l err, e = .returned (.tuple #[.slice A n c, .int .i64 err]) ∧ Sl w' w'.heap.size 1 A n (strs l) ∧ n ≤ c ∧ c ≤ maxLen ∧ Below w.heap.size w w' ∧ InpR ts lab kind l err
theorem InpEnd.none_ {ts : List Tg} {lab : ByteArray} {kind : Int} {w w' : World} {err : Int} (h : InpR ts lab kind [] err) (hb : Below w.heap.size w w') : InpEnd ts lab kind w (.returned (.tuple #[.slice none 0 0, .int .i64 err])) w' :=
  ⟨none, 0, 0, [], err, rfl, Sl.nil _ _ _ _, Nat.le_refl _, Nat.zero_le _, hb, h⟩
theorem vld_uniq {ts : List Tg} (h : Vld ts) {j k : Nat} {t : Tg} (hj : ts[j]? = some t) (hk : ts[k]? = some t) : j = k := by
  have h1 := List.getElem?_eq_some_iff.1 hj
  have h2 := List.getElem?_eq_some_iff.1 hk
  refine (List.getElem_inj (h₀ := by simpa using h1.1) (h₁ := by simpa using h2.1) h.asc.nodup).1 ?_
  simp [h1.2, h2.2]
theorem vld_size {ts : List Tg} (h : Vld ts) {x : ByteArray} (hx : isT ts x = true) : x.size ≤ 90 := by
  obtain ⟨t, ht, rfl⟩ := List.mem_map.1 ((isT_iff ts x).1 hx)
  have h1 := (h.all t ht).lab
  unfold labB labL at h1
  simp only [Bool.and_eq_true, decide_eq_true_eq] at h1
  have h2 := size_len t.lab
  have h3 : (bl t.lab).length = t.lab.data.toList.length := rfl
  omega
theorem kindOf_isT {ts : List Tg} {d : ByteArray} (h : kindOf ts d = 1) : isT ts d = true := by
  unfold kindOf at h; unfold isT
  cases hf : findT ts d with
  | none => rw [hf] at h; cases h
  | some t => rfl
theorem app_inj {p a b : ByteArray} (h : p ++ a = p ++ b) : a = b := by
  have h1 := congrArg (fun x : ByteArray => x.data.toList) h
  simp at h1
  cases a; cases b; simp at h1; simp [h1]

theorem nodup_map_of {α β : Type} {f : α → β} : ∀ {l : List α}, l.Nodup → (∀ a b, f a = f b → a = b) → (l.map f).Nodup
  | [], _, _ => by simp
  | a :: l, h, hf => by
    have h1 := List.nodup_cons.1 h
    refine List.nodup_cons.2 ⟨fun hm => ?_, nodup_map_of h1.2 hf⟩
    obtain ⟨b, hb, e⟩ := List.mem_map.1 hm
    exact h1.1 (hf _ _ e ▸ hb)
theorem source_iface (a b : ByteArray) : sourceW ++ a ≠ ifaceW ++ b := fun h => by
  have h1 := congrArg (fun x : ByteArray => x.data.toList) h
  simp [sourceW, ifaceW] at h1
theorem inp_nodup1 {deps : List ByteArray} {lab : ByteArray} (h : deps.Nodup) : ((sourceW ++ lab) :: deps.map (ifaceW ++ ·)).Nodup := by
  refine List.nodup_cons.2 ⟨fun hm => ?_, nodup_map_of h (fun a b e => app_inj e)⟩
  obtain ⟨d, _, e⟩ := List.mem_map.1 hm
  exact source_iface _ _ e.symm
theorem inp_nodup2 {all : List ByteArray} {lab : ByteArray} (h : all.Nodup) (hl : lab ∉ all) : ((codeW ++ lab) :: all.map (codeW ++ ·)).Nodup := by
  refine List.nodup_cons.2 ⟨fun hm => ?_, nodup_map_of h (fun a b e => app_inj e)⟩
  obtain ⟨d, hd, e⟩ := List.mem_map.1 hm
  exact hl (app_inj e ▸ hd)
theorem notBad2 {l : ByteArray} {dA vA : Option Addr} {dn dc vn vc : Nat} {deps vis : List ByteArray} : ¬ BadK 2 ⟨l, 2, dA, dn, dc, deps, vA, vn, vc, vis⟩ := fun h => by
  rcases h.2 with h | h
  · exact h.1 rfl
  · cases h
theorem notBad3 {l : ByteArray} {dA vA : Option Addr} {dn dc vn vc : Nat} {deps vis : List ByteArray} : ¬ BadK 3 ⟨l, 2, dA, dn, dc, deps, vA, vn, vc, vis⟩ := fun h => by
  rcases h.2 with h | h
  · exact h.2 rfl
  · cases h
theorem strs_snoc (l : List ByteArray) (x : ByteArray) : strs (l ++ [x]) = strs l ++ [.string x] := by simp [strs]
theorem map_take_snoc {l : List ByteArray} {j : Nat} {x : ByteArray} (f : ByteArray → ByteArray) (a : ByteArray) (h : l[j]? = some x) : (a :: (l.take (j + 1)).map f) = (a :: (l.take j).map f) ++ [f x] := by rw [take_snoc h]; simp

def inpPhi (vals : List Value) (base : Nat) (i : Nat) (v : Value) (W : World) : Prop :=
  if i = 8 then ∃ b0, v = .pointer (some ⟨b0, 0, none⟩) ∧ base ≤ b0 ∧ Bk W b0 60 #[.string ⟨#[]⟩, .int .i64 0, .slice none 0 0, .slice none 0 0] else vPhi vals i v W
theorem inpPhi_keep {vals : List Value} {base : Nat} (i : Nat) (v : Value) (W W' : World) (h : inpPhi vals base i v W) (hb : Below W.heap.size W W') : inpPhi vals base i v W' := by
  unfold inpPhi at h ⊢
  by_cases e : i = 8
  · rw [if_pos e] at h ⊢
    obtain ⟨b0, h1, h2, h3⟩ := h
    exact ⟨b0, h1, h2, h3.below hb h3.lt⟩
  · rw [if_neg e] at h ⊢; exact h

set_option maxRecDepth 100000 in
set_option maxHeartbeats 4000000 in
theorem inputs_any (A : Option Addr) (n c B : Nat) (ts : List Tg) (lab : ByteArray) (kd : Int) (w : World) (h0 : Sl w B 4 A n (flat tgC ts)) (hok : ∀ t ∈ ts, TgOk w B t) (hB : B ≤ w.heap.size) (hnc : n ≤ c) (hcm : c ≤ maxLen) (hls : lab.size ≤ maxLen) :
    Calls Tryz.prog 27 #[.agg #[.slice A n c], .string lab, .int .i64 kd] w (InpEnd ts lab kd w) := by
  have HTL := Lib.hid (h0.len tgC_len (by omega))
  have H0 := Lib.hid h0; have HOK := Lib.hid hok
  clear h0 hok
  obtain ⟨w0, hw0⟩ : ∃ w0, (w.alloc (.cells #[.slice A n c] 24)).alloc (.cells #[.string lab] 9) = w0 := ⟨_, rfl⟩
  have HB0 : Hid (Below w.heap.size w w0) := by rw [← hw0]; exact ((Below.refl _ w).alloc (Nat.le_refl _) _).alloc (by simp) _
  have hz0 : w0.heap.size = w.heap.size + 2 := by rw [← hw0]; simp
  have HG0 : Hid (Bk w0 w.heap.size 24 #[.slice A n c]) := by rw [← hw0]; exact (Bk.new w _ _).alloc _
  have HL0 : Hid (Bk w0 (w.heap.size + 1) 9 #[.string lab]) := by
    rw [← hw0]
    have := Bk.new (w.alloc (.cells #[.slice A n c] 24)) 9 #[.string lab]
    rw [World.size_alloc] at this; exact this
  have x0 := HG0.out.cell 0; have x1 := HL0.out.cell 0
  simp only [List.getElem?_toArray, List.getElem?_cons_zero] at x0 x1
  have HD := Lib.hid (deps_any A n c B ts lab w0 (H0.out.below HB0.out hB) (fun t ht => (HOK.out t ht).below HB0.out hB) (by omega) hnc hcm hls)
  obtain ⟨i0, hi, hzi0, hzi1, hzi2⟩ := info_parts infoStr
  have Hi := Lib.hid hi; have Hz0 := Lib.hid hzi0; have Hz1 := Lib.hid hzi1; have Hz2 := Lib.hid hzi2
  clear hi hzi0 hzi1 hzi2
  go_enter Tryz.func27, Tryz.ntmps27
  go_wp2_with (go_at_call 52; refine HD.out.mono ?_; rintro e w1 ⟨aA, an, ac, all, err, rfl, hal, hac, hacm, hb1, hfr⟩; refine halt_ ?_)
  refine unhalt ?_
  have HAL := Lib.hid hal; have HFR := Lib.hid hfr
  have HB1 : Hid (Below w.heap.size w w1) := HB0.out.trans (hb1.mono (by omega))
  have HG1 : Hid (Bk w1 w.heap.size 24 #[.slice A n c]) := HG0.out.below hb1 (by omega)
  have HL1 : Hid (Bk w1 (w.heap.size + 1) 9 #[.string lab]) := HL0.out.below hb1 (by omega)
  have hz1 : w.heap.size + 2 ≤ w1.heap.size := by have := hb1.size; omega
  clear hal hfr hb1 HD HG0 HL0 x0 x1 HB0
  clear hw0 hz0
  rcases HFR.out with ⟨h1, rfl, rfl⟩ | ⟨h1, h2, rfl, rfl⟩ | ⟨h1, h2, rfl, h3, h4⟩
  · have HF : Hid (InpR ts lab kd [] 1) := .inl ⟨h1, rfl, rfl⟩
    clear h1
    go_wp2
    go_ret2
    exact InpEnd.none_ HF.out HB1.out
  · have HF : Hid (InpR ts lab kd [] 8) := .inr (.inl ⟨h1, h2, rfl, rfl⟩)
    clear h1 h2
    go_wp2
    go_ret2
    exact InpEnd.none_ HF.out HB1.out
  · have HVL := Lib.hid h1; have HST := Lib.hid h2; have HAS := Lib.hid h3; have HAM := Lib.hid h4
    obtain ⟨t, hft⟩ : ∃ t, findT ts lab = some t := Option.isSome_iff_exists.1 h2
    have htm := findT_lab hft
    obtain ⟨k, hkl, hke⟩ := List.getElem_of_mem htm.2
    have htk : ts[k]? = some t := by rw [← hke]; exact List.getElem?_eq_getElem _
    have HFT := Lib.hid hft; have HTK := Lib.hid htk
    have HUQ : Hid (∀ k', ts[k']? = some t → k' = k) := fun k' h => vld_uniq HVL.out h HTK.out
    have hn100 : n ≤ 100 := by have := HVL.out.few; rw [HTL.out] at this; exact this
    have hkn : k < n := by rw [← HTL.out]; exact hkl
    have HTO := Lib.hid (HOK.out t htm.2)
    have HTD := Lib.hid (HVL.out.all t htm.2)
    have HTE := Lib.hid htm.1
    have hks : (k : Int) < (n : Int) := by omega
    clear h1 h2 h3 h4 hft htk htm hke hkl
    obtain ⟨b, off, t', rfl, hbB, ht', y0, y1, y2, y3⟩ := (H0.out.below HB1.out hB).tg hkn
    rw [HTK.out] at ht'
    cases ht'
    have HSW := Lib.hid (H0.out.below HB1.out hB)
    have hg1 := HG1.out.cell 0; have hl1 := HL1.out.cell 0
    simp only [List.getElem?_toArray, List.getElem?_cons_zero] at hg1 hl1
    obtain ⟨tl, kind, dA, dn, dc, deps, vA, vn, vc, vis⟩ := t
    simp only at y0 y1 y2 y3 HTE
    have HY0 := Lib.hid y0; have HY1 := Lib.hid y1; have HY2 := Lib.hid y2; have HY3 := Lib.hid y3
    have HGC := Lib.hid hg1; have HLC := Lib.hid hl1
    clear y0 y1 y2 y3 hg1 hl1
    go_wp2_with fail
    refine wp_region_stableGD 9 [25, 26, 27, 28, 29, 30, 31, 32, 10] (by kernel_rfl) (by kernel_rfl) (by kernel_rfl) (fun W => Below w1.heap.size w1 W) (fun W W' => Below W.heap.size W W')
      (inpPhi [.pointer (some ⟨w.heap.size, 0, none⟩), .slice (some ⟨b, off, none⟩) n c, .pointer (some ⟨w.heap.size, 0, none⟩), .slice (some ⟨b, off, none⟩) n c, .func (.func 54) #[] #[.pointer (some ⟨w.heap.size + 1, 0, none⟩)], .int .i64 (k : Int), .pointer (some ⟨b, off + k * 4, none⟩), .agg #[.string tl, .int .i64 kind, .slice dA dn dc, .slice vA vn vc]] w1.heap.size) (fun W W' h1 h2 => h1.trans (h2.mono h1.size)) (fun i v W W' h hb => inpPhi_keep i v W W' h hb) (Below.refl _ _).drew ?step ?tail
    case step =>
      intro i o vs W hi ho hv hR hphi
      obtain ⟨v0, v1, v2, v3, v4, v5, v6, v7, v8, rfl⟩ := list9 hv
      simp only [List.zip, List.zipWith, putAll, Act.put, List.setIfInBounds_toArray, List.set]
      have l0 := (hR.cell (p := ⟨w.heap.size, 0, none⟩) (by show w.heap.size < _; omega)).trans HGC.out
      have l1 := (hR.cell (p := ⟨w.heap.size + 1, 0, none⟩) (by show w.heap.size + 1 < _; omega)).trans HLC.out
      have m0 := (hR.cell (p := ⟨b, off + k * 4, none⟩) (by show b < _; omega)).trans HY0.out
      have m1 := (hR.cell (p := ⟨b, off + k * 4 + 1, none⟩) (by show b < _; omega)).trans HY1.out
      have m2 := (hR.cell (p := ⟨b, off + k * 4 + 2, none⟩) (by show b < _; omega)).trans HY2.out
      have m3 := (hR.cell (p := ⟨b, off + k * 4 + 3, none⟩) (by show b < _; omega)).trans HY3.out
      match i, hi, ho with
      | 0, _, rfl =>
        exact .inl ⟨rfl, gives_value (v := .pointer (some ⟨w.heap.size, 0, none⟩)) (w' := W) (by go_simp) ⟨Below.refl _ _, fun u hu => by cases hu; rfl⟩⟩
      | 1, _, rfl =>
        have e0 : v0 = _ := hphi ⟨0, .data⟩ (by simp) rfl v0 rfl _ rfl
        subst e0
        exact .inl ⟨rfl, gives_value (v := .slice (some ⟨b, off, none⟩) n c) (w' := W) (by go_simp) ⟨Below.refl _ _, fun u hu => by cases hu; rfl⟩⟩
      | 2, _, rfl =>
        exact .inl ⟨rfl, gives_value (v := .pointer (some ⟨w.heap.size, 0, none⟩)) (w' := W) (by go_simp) ⟨Below.refl _ _, fun u hu => by cases hu; rfl⟩⟩
      | 3, _, rfl =>
        have e2 : v2 = _ := hphi ⟨2, .data⟩ (by simp) rfl v2 rfl _ rfl
        subst e2
        exact .inl ⟨rfl, gives_value (v := .slice (some ⟨b, off, none⟩) n c) (w' := W) (by go_simp) ⟨Below.refl _ _, fun u hu => by cases hu; rfl⟩⟩
      | 4, _, rfl =>
        exact .inl ⟨rfl, gives_value (v := .func (.func 54) #[] #[.pointer (some ⟨w.heap.size + 1, 0, none⟩)]) (w' := W) (by go_simp) ⟨Below.refl _ _, fun u hu => by cases hu; rfl⟩⟩
      | 5, _, rfl =>
        have e3 : v3 = _ := hphi ⟨3, .data⟩ (by simp) rfl v3 rfl _ rfl
        have e4 : v4 = _ := hphi ⟨4, .data⟩ (by simp) rfl v4 rfl _ rfl
        subst e3 e4
        refine .inl ⟨rfl, gives_call (f := 53) (args := #[.slice (some ⟨b, off, none⟩) n c, .func (.func 54) #[] #[.pointer (some ⟨w.heap.size + 1, 0, none⟩)]]) (by go_simp) ((indexFunc_any (some ⟨b, off, none⟩) n c B (w.heap.size + 1) ts lab W (HSW.out.below hR (by omega)) (by have := hR.size; omega) (by omega) l1 (by have := hR.size; omega) HST.out).mono ?_)⟩
        rintro e W' ⟨k', t', rfl, hk', ht', hf', hb'⟩
        rw [HFT.out] at hf'
        cases hf'
        obtain rfl : k' = k := HUQ.out k' ht'
        exact ⟨_, rfl, hb', fun u hu => by cases hu; rfl⟩
      | 6, _, rfl =>
        have e1 : v1 = _ := hphi ⟨1, .data⟩ (by simp) rfl v1 rfl _ rfl
        have e5 : v5 = _ := hphi ⟨5, .data⟩ (by simp) rfl v5 rfl _ rfl
        subst e1 e5
        exact .inl ⟨rfl, gives_value (v := .pointer (some ⟨b, off + k * 4, none⟩)) (w' := W) (by go_simp) ⟨Below.refl _ _, fun u hu => by cases hu; rfl⟩⟩
      | 7, _, rfl =>
        have e6 : v6 = _ := hphi ⟨6, .data⟩ (by simp) rfl v6 rfl _ rfl
        subst e6
        exact .inl ⟨rfl, gives_value (v := .agg #[.string tl, .int .i64 kind, .slice dA dn dc, .slice vA vn vc]) (w' := W) (by go_simp) ⟨Below.refl _ _, fun u hu => by cases hu; rfl⟩⟩
      | 8, _, rfl =>
        exact .inl ⟨rfl, gives_value (v := .pointer (some ⟨W.heap.size, 0, none⟩)) (w' := W.alloc (.cells #[.string ⟨#[]⟩, .int .i64 0, .slice none 0 0, .slice none 0 0] 60)) (by go_simp) ⟨(Below.refl _ W).alloc (Nat.le_refl _) _, W.heap.size, rfl, hR.size, Bk.new W _ _⟩⟩
      | i + 9, hi, _ => exact absurd hi (by omega)
    case tail =>
      intro vs W hv hR hphi
      obtain ⟨v0, v1, v2, v3, v4, v5, v6, v7, v8, rfl⟩ := list9 hv
      simp only [List.zip, List.zipWith, putAll, Act.put, List.setIfInBounds_toArray, List.set, List.drop]
      have e7 : v7 = _ := hphi 7 v7 rfl _ rfl
      subst e7
      obtain ⟨b0, e8, hb0, hk8⟩ : ∃ b0, v8 = .pointer (some ⟨b0, 0, none⟩) ∧ w1.heap.size ≤ b0 ∧ Bk W b0 60 #[.string ⟨#[]⟩, .int .i64 0, .slice none 0 0, .slice none 0 0] := hphi 8 v8 rfl
      subst e8
      have f0 := hk8.free 0; have f1 := hk8.free 1; have f2 := hk8.free 2; have f3 := hk8.free 3
      have c0 := hk8.cell 0; have c1 := hk8.cell 1; have c2 := hk8.cell 2; have c3 := hk8.cell 3
      simp only [List.getElem?_toArray, List.getElem?_cons_succ, List.getElem?_cons_zero] at c0 c1 c2 c3
      obtain ⟨W3, hW3⟩ : ∃ W3, (((W.setCell ⟨b0, 0, none⟩ (.string tl)).setCell ⟨b0, 1, none⟩ (.int .i64 kind)).setCell ⟨b0, 2, none⟩ (.slice dA dn dc)).setCell ⟨b0, 3, none⟩ (.slice vA vn vc) = W3 := ⟨_, rfl⟩
      have HK3 : Hid (Bk W3 b0 60 #[.string tl, .int .i64 kind, .slice dA dn dc, .slice vA vn vc]) := by
        rw [← hW3]
        have := (((hk8.set 0 (.string tl)).set 1 (.int .i64 kind)).set 2 (.slice dA dn dc)).set 3 (.slice vA vn vc)
        exact this
      have HB3 : Hid (Below w1.heap.size w1 W3) := by
        rw [← hW3]
        exact (((hR.setCell (p := ⟨b0, 0, none⟩) hb0 _).setCell (p := ⟨b0, 1, none⟩) hb0 _).setCell (p := ⟨b0, 2, none⟩) hb0 _).setCell (p := ⟨b0, 3, none⟩) hb0 _
      have HLC3 := Lib.hid ((HB3.out.cell (p := ⟨w.heap.size + 1, 0, none⟩) (by show w.heap.size + 1 < _; omega)).trans HLC.out)
      have q1 := HK3.out.cell 1; have q2 := HK3.out.cell 2
      simp only [List.getElem?_toArray, List.getElem?_cons_succ, List.getElem?_cons_zero] at q1 q2
      have l1 := HLC3.out
      have HBW3 : Hid (Below w.heap.size w W3) := HB1.out.trans (HB3.out.mono (by omega))
      have hb3z := HK3.out.lt
      have hw3z := HB3.out.size
      clear hphi hR hv hk8 HSW HGC HY0 HY1 HY2 HY3
      have hkk : kind = 1 ∨ kind = 2 := HTD.out.kind
      have hdl : deps.length = dn := HTO.out.dlen
      have hdf : deps.length ≤ 20 := HTD.out.few
      have hl90 : lab.size ≤ 90 := vld_size HVL.out HST.out
      by_cases hk1 : kd = 1
      · subst hk1
        have HND : Hid (((sourceW ++ lab) :: deps.map (ifaceW ++ ·)).Nodup) := inp_nodup1 HTD.out.nod
        have HDS : Hid (Sl W3 B 1 dA dn (strs deps)) := HTO.out.d.below HBW3.out hB
        have hdn : dn ≤ 20 := by omega
        have hcat : ¬ (9223372036854775807 < (⟨#[115, 111, 117, 114, 99, 101, 32]⟩ : ByteArray).size + lab.size) := by show ¬ (_ < 7 + lab.size); omega
        go_wp2_with (at_builtin; refine halt_ ?_)
        refine unhalt ?_
        refine wpList_append_sl (base := W3.heap.size) (size := 1) _ rfl (.tmp 56) (.tmp 59) 58 rfl 9 i0 _ 16 Tryz.underlying58 Hi.out Hz0.out Hz1.out Hz2.out rfl (by decide) (.slice none 0 0) 0 [] rfl (World.ownsRow_nil _ _ _ _) (W3.heap.size + 1) _ 1 _ [.string (sourceW ++ lab)] rfl ?nw_1 (by simp [Value.oneCell']) ?l1_1 ?l2_1 ?l3_1 ?_
        case nw_1 => exact ⟨rfl, fun _ => ⟨W3.heap.size, 0, rfl, Nat.lt_succ_self _, fun j u hu => by have := new_cell W3 9 (sourceW ++ lab) j u hu; rwa [Addr.add_lit] at this⟩⟩
        case l1_1 => unfold maxLen; omega
        case l2_1 => omega
        case l3_1 => simp
        intro A4 c4 w4 ho4 hg4 hc41 hc42
        have HO4 : Hid (w4.ownsRow W3.heap.size 9 1 (.slice A4 1 c4) 1 (strs [sourceW ++ lab])) := ho4
        have HB4 : Hid (Below W3.heap.size W3 w4) := ((Below.refl _ W3).alloc (Nat.le_refl _) _).trans ((below_none hg4).mono (by simp))
        have hz4 : W3.heap.size + 1 ≤ w4.heap.size := by have := hg4.size; simp at this; omega
        have q2' := (HB4.out.cell (p := ⟨b0, 2, none⟩) hb3z).trans q2
        clear ho4 hg4 q1 q2 l1 hW3 f0 f1 f2 f3 c0 c1 c2 c3
        go_wp2
        go_loopw [11, 64] (fun q i wr => ∃ (j : Nat) (Aq : Option Addr) (cq : Nat), j ≤ dn ∧ i = .int .i64 j ∧ q = .slice Aq (j + 1) cq ∧ Hid (wr.ownsRow W3.heap.size 9 1 (.slice Aq (j + 1) cq) (j + 1) (strs ((sourceW ++ lab) :: (deps.take j).map (ifaceW ++ ·)))) ∧ Hid (Below W3.heap.size W3 wr)) (fun _ i _ => dn - (intOf i).toNat)
        case atStart => exact ⟨0, A4, c4, Nat.zero_le _, rfl, rfl, HO4.out, HB4.out⟩
        case round =>
          obtain ⟨j, Aq, cq, hj, rfl, rfl, hO, hBel⟩ := hrel
          by_cases hlt : j < dn
          · obtain ⟨db, doff, x, rfl, hdb, hx, y0⟩ := (HDS.out.below hBel.out (Nat.le_trans hB (by omega))).str_at hlt
            have hlz : (j : Int) < (dn : Int) := by omega
            have HX := Lib.hid hx
            have hx90 : x.size ≤ 90 := vld_size HVL.out (kindOf_isT (HTD.out.dep x (List.mem_of_getElem? hx)))
            have hwr := hBel.out.size
            clear hx
            have hcat2 : ¬ (9223372036854775807 < (⟨#[105, 102, 97, 99, 101, 32]⟩ : ByteArray).size + x.size) := by show ¬ (_ < 6 + x.size); omega
            go_wp2_with (at_builtin; refine halt_ ?_)
            refine unhalt ?_
            refine wpList_append_sl (base := W3.heap.size) (size := 1) _ rfl (.tmp 68) (.tmp 71) 58 rfl 9 i0 _ 16 Tryz.underlying58 Hi.out Hz0.out Hz1.out Hz2.out rfl (by decide) (.slice Aq (j + 1) cq) (j + 1) (strs ((sourceW ++ lab) :: (deps.take j).map (ifaceW ++ ·))) rfl ?own_2 (wr.heap.size + 1) _ 1 _ [.string (ifaceW ++ x)] rfl ?nw2_2 (by simp [Value.oneCell']) ?m1_2 ?m2_2 ?m3_2 ?_
            case own_2 => exact hO.out.kept (World.grownBy_alloc wr _ none) (by cases hv : (Value.slice Aq (j + 1) cq).ownBlock with | none => exact .inl rfl | some k => exact .inr (by simp))
            case nw2_2 => exact ⟨rfl, fun _ => ⟨wr.heap.size, 0, rfl, Nat.lt_succ_self _, fun j u hu => by have := new_cell wr 9 (ifaceW ++ x) j u hu; rwa [Addr.add_lit] at this⟩⟩
            case m1_2 => unfold maxLen; omega
            case m2_2 => omega
            case m3_2 => simp; omega
            intro A5 c5 w5 ho5 hg5 hc51 hc52
            have HO5 : Hid (w5.ownsRow W3.heap.size 9 1 (.slice A5 (j + 1 + 1) c5) (j + 1 + 1) (strs ((sourceW ++ lab) :: (deps.take (j + 1)).map (ifaceW ++ ·)))) := by
              show World.ownsRow _ _ _ _ _ _ _
              rw [map_take_snoc (ifaceW ++ ·) (sourceW ++ lab) HX.out, strs_snoc]; exact ho5
            have HB5 : Hid (Below W3.heap.size W3 w5) := (hBel.out.alloc (by omega) _).grown hg5 (by simp; omega) (fun k hk => ownBlock_ge hO.out k hk)
            clear ho5 hg5
            go_wp2
            go_roundw
            case rel => exact ⟨j + 1, A5, c5, by omega, by go_num, rfl, HO5.out, HB5.out⟩
            case measure => simp [intOf]; omega
          · have hlz : ¬ (j : Int) < (dn : Int) := by omega
            have hje : dn = j := by omega
            subst hje
            have HO6 : Hid (wr.ownsRow W3.heap.size 9 1 (.slice Aq (dn + 1) cq) (dn + 1) (strs ((sourceW ++ lab) :: deps.map (ifaceW ++ ·)))) := by
              have := hO.out
              rw [List.take_of_length_le (by omega)] at this
              exact this
            go_wp2_with (go_at_call 55; refine (sort_any W3.heap.size (dn + 1) cq Aq ((sourceW ++ lab) :: deps.map (ifaceW ++ ·)) wr HO6.out (by omega)).mono ?_; rintro e w5 ⟨rfl, hs1, hs2⟩)
            go_ret2
            obtain ⟨_, _, hform, hl1, hl2⟩ := ownsRow_form hs1
            injection hform with _ _ hcc
            subst hcc
            refine ⟨_, _, _, srtB ((sourceW ++ lab) :: deps.map (ifaceW ++ ·)), 0, rfl, Sl.of_own hs1, hl1, hl2, HBW3.out.trans ((hBel.out.grown hs2 hBel.out.size (fun k hk => ownBlock_ge HO6.out k hk)).mono HBW3.out.size), .inr (.inr ⟨HVL.out, _, HFT.out, .inr ⟨(fun h => h.1 rfl), rfl, srtB_asc HND.out, fun x => ?_⟩⟩)⟩
            rw [srtB_mem]
            constructor
            · intro h
              refine .inl ⟨rfl, ?_⟩
              rcases List.mem_cons.1 h with h | h
              · exact .inl h
              · obtain ⟨d, hd, e⟩ := List.mem_map.1 h
                exact .inr ⟨d, hd, e.symm⟩
            · rintro (⟨_, h⟩ | ⟨h, _⟩ | ⟨h, _⟩)
              · rcases h with h | ⟨d, hd, h⟩
                · exact List.mem_cons.2 (.inl h)
                · exact List.mem_cons.2 (.inr (List.mem_map.2 ⟨d, hd, h.symm⟩))
              · exact absurd h (by decide)
              · exact absurd h (by decide)
      · by_cases hk2 : kd = 2
        · subst hk2
          rcases hkk with rfl | rfl
          · go_wp2
            go_ret2
            exact InpEnd.none_ (.inr (.inr ⟨HVL.out, _, HFT.out, .inl ⟨⟨by omega, .inr rfl⟩, rfl, rfl⟩⟩)) HBW3.out
          · have HND : Hid (((codeW ++ lab) :: all.map (codeW ++ ·)).Nodup) := inp_nodup2 HAS.out.nodup (fun h => HVL.out.free lab ((HAM.out lab).1 h))
            have HDS : Hid (Sl W3 w1.heap.size 1 aA an (strs all)) := HAL.out.below HB3.out (Nat.le_refl _)
            have hal : all.length = an := by have := HAL.out.1; rw [strs_len] at this; omega
            have han : an ≤ 100 := by
              have h1 := nodup_len all (ts.map Tg.lab) HAS.out.nodup (fun x hx => (isT_iff ts x).1 (rch_isT ((HAM.out x).1 hx)))
              rw [List.length_map, HTL.out] at h1; omega
            have hcat : ¬ (9223372036854775807 < (⟨#[99, 111, 100, 101, 32]⟩ : ByteArray).size + lab.size) := by show ¬ (_ < 5 + lab.size); omega
            go_wp2_with (at_builtin; refine halt_ ?_)
            refine unhalt ?_
            refine wpList_append_sl (base := W3.heap.size) (size := 1) _ rfl (.tmp 76) (.tmp 79) 58 rfl 9 i0 _ 16 Tryz.underlying58 Hi.out Hz0.out Hz1.out Hz2.out rfl (by decide) (.slice none 0 0) 0 [] rfl (World.ownsRow_nil _ _ _ _) (W3.heap.size + 1) _ 1 _ [.string (codeW ++ lab)] rfl ?nw_3 (by simp [Value.oneCell']) ?l1_3 ?l2_3 ?l3_3 ?_
            case nw_3 => exact ⟨rfl, fun _ => ⟨W3.heap.size, 0, rfl, Nat.lt_succ_self _, fun j u hu => by have := new_cell W3 9 (codeW ++ lab) j u hu; rwa [Addr.add_lit] at this⟩⟩
            case l1_3 => unfold maxLen; omega
            case l2_3 => omega
            case l3_3 => simp
            intro A4 c4 w4 ho4 hg4 hc41 hc42
            have HO4 : Hid (w4.ownsRow W3.heap.size 9 1 (.slice A4 1 c4) 1 (strs [codeW ++ lab])) := ho4
            have HB4 : Hid (Below W3.heap.size W3 w4) := ((Below.refl _ W3).alloc (Nat.le_refl _) _).trans ((below_none hg4).mono (by simp))
            have hz4 : W3.heap.size + 1 ≤ w4.heap.size := by have := hg4.size; simp at this; omega
            have q2' := (HB4.out.cell (p := ⟨b0, 2, none⟩) hb3z).trans q2
            clear ho4 hg4 q1 q2 l1 hW3 f0 f1 f2 f3 c0 c1 c2 c3
            go_wp2
            go_loopw [11, 83] (fun q i wr => ∃ (j : Nat) (Aq : Option Addr) (cq : Nat), j ≤ an ∧ i = .int .i64 j ∧ q = .slice Aq (j + 1) cq ∧ Hid (wr.ownsRow W3.heap.size 9 1 (.slice Aq (j + 1) cq) (j + 1) (strs ((codeW ++ lab) :: (all.take j).map (codeW ++ ·)))) ∧ Hid (Below W3.heap.size W3 wr)) (fun _ i _ => an - (intOf i).toNat)
            case atStart => exact ⟨0, A4, c4, Nat.zero_le _, rfl, rfl, HO4.out, HB4.out⟩
            case round =>
              obtain ⟨j, Aq, cq, hj, rfl, rfl, hO, hBel⟩ := hrel
              by_cases hlt : j < an
              · obtain ⟨db, doff, x, rfl, hdb, hx, y0⟩ := (HDS.out.below hBel.out hw3z).str_at hlt
                have hlz : (j : Int) < (an : Int) := by omega
                have HX := Lib.hid hx
                have hx90 : x.size ≤ 90 := vld_size HVL.out (rch_isT ((HAM.out x).1 (List.mem_of_getElem? hx)))
                have hwr := hBel.out.size
                clear hx
                have hcat2 : ¬ (9223372036854775807 < (⟨#[99, 111, 100, 101, 32]⟩ : ByteArray).size + x.size) := by show ¬ (_ < 5 + x.size); omega
                go_wp2_with (at_builtin; refine halt_ ?_)
                refine unhalt ?_
                refine wpList_append_sl (base := W3.heap.size) (size := 1) _ rfl (.tmp 87) (.tmp 90) 58 rfl 9 i0 _ 16 Tryz.underlying58 Hi.out Hz0.out Hz1.out Hz2.out rfl (by decide) (.slice Aq (j + 1) cq) (j + 1) (strs ((codeW ++ lab) :: (all.take j).map (codeW ++ ·))) rfl ?own_4 (wr.heap.size + 1) _ 1 _ [.string (codeW ++ x)] rfl ?nw2_4 (by simp [Value.oneCell']) ?m1_4 ?m2_4 ?m3_4 ?_
                case own_4 => exact hO.out.kept (World.grownBy_alloc wr _ none) (by cases hv : (Value.slice Aq (j + 1) cq).ownBlock with | none => exact .inl rfl | some k => exact .inr (by simp))
                case nw2_4 => exact ⟨rfl, fun _ => ⟨wr.heap.size, 0, rfl, Nat.lt_succ_self _, fun j u hu => by have := new_cell wr 9 (codeW ++ x) j u hu; rwa [Addr.add_lit] at this⟩⟩
                case m1_4 => unfold maxLen; omega
                case m2_4 => omega
                case m3_4 => simp; omega
                intro A5 c5 w5 ho5 hg5 hc51 hc52
                have HO5 : Hid (w5.ownsRow W3.heap.size 9 1 (.slice A5 (j + 1 + 1) c5) (j + 1 + 1) (strs ((codeW ++ lab) :: (all.take (j + 1)).map (codeW ++ ·)))) := by
                  show World.ownsRow _ _ _ _ _ _ _
                  rw [map_take_snoc (codeW ++ ·) (codeW ++ lab) HX.out, strs_snoc]; exact ho5
                have HB5 : Hid (Below W3.heap.size W3 w5) := (hBel.out.alloc (by omega) _).grown hg5 (by simp; omega) (fun k hk => ownBlock_ge hO.out k hk)
                clear ho5 hg5
                go_wp2
                go_roundw
                case rel => exact ⟨j + 1, A5, c5, by omega, by go_num, rfl, HO5.out, HB5.out⟩
                case measure => simp [intOf]; omega
              · have hlz : ¬ (j : Int) < (an : Int) := by omega
                have hje : an = j := by omega
                subst hje
                have HO6 : Hid (wr.ownsRow W3.heap.size 9 1 (.slice Aq (an + 1) cq) (an + 1) (strs ((codeW ++ lab) :: all.map (codeW ++ ·)))) := by
                  have := hO.out
                  rw [List.take_of_length_le (by omega)] at this
                  exact this
                go_wp2_with (go_at_call 55; refine (sort_any W3.heap.size (an + 1) cq Aq ((codeW ++ lab) :: all.map (codeW ++ ·)) wr HO6.out (by omega)).mono ?_; rintro e w5 ⟨rfl, hs1, hs2⟩)
                go_ret2
                obtain ⟨_, _, hform, hl1, hl2⟩ := ownsRow_form hs1
                injection hform with _ _ hcc
                subst hcc
                refine ⟨_, _, _, srtB ((codeW ++ lab) :: all.map (codeW ++ ·)), 0, rfl, Sl.of_own hs1, hl1, hl2, HBW3.out.trans ((hBel.out.grown hs2 hBel.out.size (fun k hk => ownBlock_ge HO6.out k hk)).mono HBW3.out.size), .inr (.inr ⟨HVL.out, _, HFT.out, .inr ⟨notBad2, rfl, srtB_asc HND.out, fun x => ?_⟩⟩)⟩
                rw [srtB_mem]
                constructor
                · intro h
                  refine .inr (.inl ⟨rfl, ?_⟩)
                  rcases List.mem_cons.1 h with h | h
                  · exact .inl h
                  · obtain ⟨d, hd, e⟩ := List.mem_map.1 h
                    exact .inr ⟨d, (HAM.out d).1 hd, e.symm⟩
                · rintro (⟨h, _⟩ | ⟨_, h⟩ | ⟨h, _⟩)
                  · exact absurd h (by decide)
                  · rcases h with h | ⟨d, hd, h⟩
                    · exact List.mem_cons.2 (.inl h)
                    · exact List.mem_cons.2 (.inr (List.mem_map.2 ⟨d, (HAM.out d).2 hd, h.symm⟩))
                  · exact absurd h (by decide)
        · by_cases hk3 : kd = 3
          · subst hk3
            rcases hkk with rfl | rfl
            · go_wp2
              go_ret2
              exact InpEnd.none_ (.inr (.inr ⟨HVL.out, _, HFT.out, .inl ⟨⟨by omega, .inr rfl⟩, rfl, rfl⟩⟩)) HBW3.out
            · have HND : Hid ([programW ++ lab].Nodup) := by simp [Hid]
              have hcat : ¬ (9223372036854775807 < (⟨#[112, 114, 111, 103, 114, 97, 109, 32]⟩ : ByteArray).size + lab.size) := by show ¬ (_ < 8 + lab.size); omega
              go_wp2_with (at_builtin; refine halt_ ?_)
              refine unhalt ?_
              refine wpList_append_sl (base := W3.heap.size) (size := 1) _ rfl (.tmp 49) (.tmp 52) 58 rfl 9 i0 _ 16 Tryz.underlying58 Hi.out Hz0.out Hz1.out Hz2.out rfl (by decide) (.slice none 0 0) 0 [] rfl (World.ownsRow_nil _ _ _ _) (W3.heap.size + 1) _ 1 _ [.string (programW ++ lab)] rfl ?nw_5 (by simp [Value.oneCell']) ?l1_5 ?l2_5 ?l3_5 ?_
              case nw_5 => exact ⟨rfl, fun _ => ⟨W3.heap.size, 0, rfl, Nat.lt_succ_self _, fun j u hu => by have := new_cell W3 9 (programW ++ lab) j u hu; rwa [Addr.add_lit] at this⟩⟩
              case l1_5 => unfold maxLen; omega
              case l2_5 => omega
              case l3_5 => simp
              intro A4 c4 w4 ho4 hg4 hc41 hc42
              have HO4 : Hid (w4.ownsRow W3.heap.size 9 1 (.slice A4 1 c4) 1 (strs [programW ++ lab])) := ho4
              have HB4 : Hid (Below W3.heap.size W3 w4) := ((Below.refl _ W3).alloc (Nat.le_refl _) _).trans ((below_none hg4).mono (by simp))
              have hz4 : W3.heap.size + 1 ≤ w4.heap.size := by have := hg4.size; simp at this; omega
              have q2' := (HB4.out.cell (p := ⟨b0, 2, none⟩) hb3z).trans q2
              clear ho4 hg4 q1 q2 l1 hW3 f0 f1 f2 f3 c0 c1 c2 c3
              go_wp2_with (go_at_call 55; refine (sort_any W3.heap.size 1 c4 A4 [programW ++ lab] w4 HO4.out (by omega)).mono ?_; rintro e w5 ⟨rfl, hs1, hs2⟩)
              go_ret2
              obtain ⟨_, _, hform, hl1, hl2⟩ := ownsRow_form hs1
              injection hform with _ _ hcc
              subst hcc
              refine ⟨_, _, _, srtB [programW ++ lab], 0, rfl, Sl.of_own hs1, hl1, hl2, HBW3.out.trans ((HB4.out.grown hs2 HB4.out.size (fun k hk => ownBlock_ge HO4.out k hk)).mono HBW3.out.size), .inr (.inr ⟨HVL.out, _, HFT.out, .inr ⟨notBad3, rfl, srtB_asc HND.out, fun x => ?_⟩⟩)⟩
              rw [srtB_mem]
              constructor
              · intro h
                exact .inr (.inr ⟨rfl, List.mem_singleton.1 h⟩)
              · rintro (⟨h, _⟩ | ⟨h, _⟩ | ⟨_, h⟩)
                · exact absurd h (by decide)
                · exact absurd h (by decide)
                · exact List.mem_singleton.2 h
          · have n1 : (kd != 1) = true := by simp [hk1]
            have n2 : (kd != 2) = true := by simp [hk2]
            have n3 : (kd != 3) = true := by simp [hk3]
            have HBK : Hid (BadK kd ⟨tl, kind, dA, dn, dc, deps, vA, vn, vc, vis⟩) := ⟨hk1, .inl ⟨hk2, hk3⟩⟩
            clear hk1 hk2 hk3
            go_wp2
            go_ret2
            exact InpEnd.none_ (.inr (.inr ⟨HVL.out, _, HFT.out, .inl ⟨HBK.out, rfl, rfl⟩⟩)) HBW3.out
end Go.Proofs.YtiphbincnnppdaaGreatDoor

namespace Go.Proofs.YtiphbincnnppdaaGreatDoor
open Go.RowKit

def lA : ByteArray := ⟨#[97]⟩
def lB : ByteArray := ⟨#[98]⟩
def lT : ByteArray := ⟨#[116]⟩
def awkT (p q : Option Addr) : List Tg := [⟨lA, 1, none, 0, 0, [], none, 0, 0, []⟩, ⟨lB, 1, p, 1, 1, [lA], none, 0, 0, []⟩, ⟨lT, 2, q, 1, 1, [lB], none, 0, 0, []⟩]
theorem awk_find (p q : Option Addr) (s : ByteArray) : findT (awkT p q) s = if lA = s then some ⟨lA, 1, none, 0, 0, [], none, 0, 0, []⟩ else if lB = s then some ⟨lB, 1, p, 1, 1, [lA], none, 0, 0, []⟩ else if lT = s then some ⟨lT, 2, q, 1, 1, [lB], none, 0, 0, []⟩ else none := rfl
theorem ab : lA ≠ lB := by decide
theorem at_ : lA ≠ lT := by decide
theorem bt : lB ≠ lT := by decide
theorem awk_a (p q : Option Addr) : nxT (awkT p q) lA = [] := by rw [nxT, awk_find, if_pos rfl]; rfl
theorem awk_b (p q : Option Addr) : nxT (awkT p q) lB = [lA] := by
  have : isT (awkT p q) lA = true := by rw [isT, awk_find, if_pos rfl]; rfl
  rw [nxT, awk_find, if_neg ab, if_pos rfl]; simp [this]
theorem awk_t (p q : Option Addr) : nxT (awkT p q) lT = [lB] := by
  have : isT (awkT p q) lB = true := by rw [isT, awk_find, if_neg ab, if_pos rfl]; rfl
  rw [nxT, awk_find, if_neg at_, if_neg bt, if_pos rfl]; simp [this]
theorem awk_o (p q : Option Addr) (s : ByteArray) (h1 : lA ≠ s) (h2 : lB ≠ s) (h3 : lT ≠ s) : nxT (awkT p q) s = [] := by
  rw [nxT, awk_find, if_neg h1, if_neg h2, if_neg h3]
theorem awk_step {p q : Option Addr} {s x : ByteArray} (h : x ∈ nxT (awkT p q) s) : (s = lB ∧ x = lA) ∨ (s = lT ∧ x = lB) := by
  by_cases h1 : lA = s
  · rw [← h1, awk_a] at h; cases h
  · by_cases h2 : lB = s
    · rw [← h2, awk_b] at h; exact .inl ⟨h2.symm, List.mem_singleton.1 h⟩
    · by_cases h3 : lT = s
      · rw [← h3, awk_t] at h; exact .inr ⟨h3.symm, List.mem_singleton.1 h⟩
      · rw [awk_o p q s h1 h2 h3] at h; cases h
theorem awk_stp {p q : Option Addr} : ∀ {n : Nat} {s x : ByteArray}, Stp (nxT (awkT p q)) n s x → (s = lB ∧ x = lA) ∨ (s = lT ∧ (x = lB ∨ x = lA))
  | 0, s, x, h => by
    rcases awk_step h with h | h
    · exact .inl h
    · exact .inr ⟨h.1, .inl h.2⟩
  | n + 1, s, x, h => by
    obtain ⟨c, hc, hx⟩ := h
    rcases awk_stp hc with ⟨h1, h2⟩ | ⟨h1, h2⟩
    · rcases awk_step hx with ⟨h3, _⟩ | ⟨h3, _⟩
      · exact absurd (h2.symm.trans h3) ab
      · exact absurd (h2.symm.trans h3) at_
    · rcases awk_step hx with ⟨_, h4⟩ | ⟨h3, _⟩
      · exact .inr ⟨h1, .inr h4⟩
      · rcases h2 with h2 | h2
        · exact absurd (h2.symm.trans h3) bt
        · exact absurd (h2.symm.trans h3) at_
theorem awk_free (p q : Option Addr) (s : ByteArray) : ¬ Rch (nxT (awkT p q)) s s := by
  rintro ⟨n, h⟩
  rcases awk_stp h with ⟨h1, h2⟩ | ⟨h1, h2 | h2⟩
  · exact ab (h2.symm.trans h1)
  · exact bt (h2.symm.trans h1)
  · exact at_ (h2.symm.trans h1)
theorem awk_rch (p q : Option Addr) (x : ByteArray) : Rch (nxT (awkT p q)) lT x ↔ (x = lB ∨ x = lA) := by
  constructor
  · rintro ⟨n, h⟩
    rcases awk_stp h with ⟨h1, _⟩ | ⟨_, h⟩
    · exact absurd h1.symm bt
    · exact h
  · have h1 : Rch (nxT (awkT p q)) lT lB := Rch.one (by rw [awk_t]; simp)
    rintro (rfl | rfl)
    · exact h1
    · exact h1.snoc (by rw [awk_b]; simp)
theorem awk_vld (p q : Option Addr) : Vld (awkT p q) := by
  refine ⟨by simp [awkT], fun t ht => ?_, ?_, awk_free p q⟩
  · simp only [awkT, List.mem_cons, List.mem_nil_iff, or_false] at ht
    rcases ht with rfl | rfl | rfl
    · exact ⟨by kernel_rfl, .inl rfl, by simp, (fun d hd => by cases hd), .nil, rfl⟩
    · exact ⟨by kernel_rfl, .inl rfl, by simp, (fun d hd => by rw [List.mem_singleton.1 hd, kindOf, awk_find, if_pos rfl]), by simp, rfl⟩
    · exact ⟨by kernel_rfl, .inr rfl, by simp, (fun d hd => by rw [List.mem_singleton.1 hd, kindOf, awk_find, if_neg ab, if_pos rfl]), by simp, rfl⟩
  · show Asc [lA, lB, lT]
    unfold Asc
    simp only [List.pairwise_cons, List.mem_cons, List.mem_nil_iff, or_false, forall_eq_or_imp, forall_eq]
    exact ⟨⟨by decide, by decide⟩, by decide, (fun a h => h.elim), .nil⟩
def out1 : List ByteArray := [⟨#[105, 102, 97, 99, 101, 32, 98]⟩, ⟨#[115, 111, 117, 114, 99, 101, 32, 116]⟩]
def out2 : List ByteArray := [⟨#[99, 111, 100, 101, 32, 97]⟩, ⟨#[99, 111, 100, 101, 32, 98]⟩, ⟨#[99, 111, 100, 101, 32, 116]⟩]
def out3 : List ByteArray := [⟨#[112, 114, 111, 103, 114, 97, 109, 32, 116]⟩]
theorem asc1 : Asc out1 := by
  unfold Asc out1
  simp only [List.pairwise_cons, List.mem_cons, List.mem_nil_iff, or_false, forall_eq]
  exact ⟨by decide, (fun a h => h.elim), .nil⟩
theorem asc2 : Asc out2 := by
  unfold Asc out2
  simp only [List.pairwise_cons, List.mem_cons, List.mem_nil_iff, or_false, forall_eq_or_imp, forall_eq]
  exact ⟨⟨by decide, by decide⟩, by decide, (fun a h => h.elim), .nil⟩
theorem asc3 : Asc out3 := by
  unfold Asc out3
  simp only [List.pairwise_cons, List.mem_nil_iff]
  exact ⟨(fun a h => h.elim), .nil⟩
theorem awk_inp {p q : Option Addr} {k : Int} {l : List ByteArray} {err : Int} (h : InpR (awkT p q) lT k l err) (hk : k = 1 ∨ k = 2 ∨ k = 3) :
    err = 0 ∧ Asc l ∧ ∀ x, x ∈ l ↔ InpMem (awkT p q) ⟨lT, 2, q, 1, 1, [lB], none, 0, 0, []⟩ lT k x := by
  have hf : findT (awkT p q) lT = some ⟨lT, 2, q, 1, 1, [lB], none, 0, 0, []⟩ := by rw [awk_find, if_neg at_, if_neg bt, if_pos rfl]
  rcases h with ⟨h, _⟩ | ⟨_, h, _⟩ | ⟨_, t, ht, h⟩
  · exact absurd (awk_vld p q) h
  · rw [isT, hf] at h; cases h
  · rw [hf] at ht; cases ht
    rcases h with ⟨⟨h1, h2⟩, _⟩ | ⟨_, h1, h2, h3⟩
    · rcases h2 with h2 | h2
      · omega
      · exact absurd h2 (by simp)
    · exact ⟨h1, h2, h3⟩
theorem awk1 {p q : Option Addr} {l : List ByteArray} {err : Int} (h : InpR (awkT p q) lT 1 l err) : err = 0 ∧ l = out1 := by
  obtain ⟨h1, h2, h3⟩ := awk_inp h (.inl rfl)
  refine ⟨h1, asc_ext h2 asc1 fun x => (h3 x).trans ?_⟩
  simp only [InpMem, exists_eq_left, out1, List.mem_cons, List.mem_nil_iff, or_false]
  constructor
  · rintro (⟨_, h | h⟩ | ⟨h, _⟩ | ⟨h, _⟩)
    · exact .inr (h.trans (by decide))
    · exact .inl (h.trans (by decide))
    · omega
    · omega
  · rintro (h | h)
    · exact .inl ⟨trivial, .inr (h.trans (by decide))⟩
    · exact .inl ⟨trivial, .inl (h.trans (by decide))⟩
theorem awk2 {p q : Option Addr} {l : List ByteArray} {err : Int} (h : InpR (awkT p q) lT 2 l err) : err = 0 ∧ l = out2 := by
  obtain ⟨h1, h2, h3⟩ := awk_inp h (.inr (.inl rfl))
  refine ⟨h1, asc_ext h2 asc2 fun x => (h3 x).trans ?_⟩
  simp only [InpMem, awk_rch, out2, List.mem_cons, List.mem_nil_iff, or_false]
  constructor
  · rintro (⟨h, _⟩ | ⟨_, h | ⟨d, rfl | rfl, h⟩⟩ | ⟨h, _⟩)
    · omega
    · exact .inr (.inr (h.trans (by decide)))
    · exact .inr (.inl (h.trans (by decide)))
    · exact .inl (h.trans (by decide))
    · omega
  · rintro (h | h | h)
    · exact .inr (.inl ⟨trivial, .inr ⟨lA, .inr rfl, h.trans (by decide)⟩⟩)
    · exact .inr (.inl ⟨trivial, .inr ⟨lB, .inl rfl, h.trans (by decide)⟩⟩)
    · exact .inr (.inl ⟨trivial, .inl (h.trans (by decide))⟩)
theorem awk3 {p q : Option Addr} {l : List ByteArray} {err : Int} (h : InpR (awkT p q) lT 3 l err) : err = 0 ∧ l = out3 := by
  obtain ⟨h1, h2, h3⟩ := awk_inp h (.inr (.inr rfl))
  refine ⟨h1, asc_ext h2 asc3 fun x => (h3 x).trans ?_⟩
  simp only [InpMem, out3, List.mem_cons, List.mem_nil_iff, or_false]
  constructor
  · rintro (⟨h, _⟩ | ⟨h, _⟩ | ⟨_, h⟩)
    · omega
    · omega
    · exact h.trans (by decide)
  · exact fun h => .inr (.inr ⟨trivial, h.trans (by decide)⟩)
end Go.Proofs.YtiphbincnnppdaaGreatDoor

namespace Go.Proofs.YtiphbincnnppdaaGreatDoor
open Go.RowKit Go.Maps

def LawEnd (w : World) (e : Ending) (w' : World) : Prop := e = .returned (.bool true) ∧ Below w.heap.size w w'
theorem smallF_sizes {fs : List Fl} (h : SmallF fs) : fs.length ≤ 30 ∧ ∀ f ∈ fs, f.1.size ≤ maxLen := ⟨h.1, fun f hf => by have := (h.2 f hf).1; unfold maxLen; omega⟩
set_option maxRecDepth 100000 in
set_option maxHeartbeats 2000000 in
theorem awake_any (w : World) : Calls Tryz.prog 9 #[] w fun e w' => e = .returned (.bool true) ∧ Below w.heap.size w w' := by
  go_enter Tryz.func9, Tryz.ntmps9
  go_wp2_with fail
  obtain ⟨W1, hW1⟩ : ∃ W, w.alloc (.cells #[.string ⟨#[97]⟩] 9) = W := ⟨_, rfl⟩
  obtain ⟨W2, hW2⟩ : ∃ W, W1.alloc (.cells #[.string ⟨#[98]⟩] 9) = W := ⟨_, rfl⟩
  obtain ⟨W3, hW3⟩ : ∃ W, W2.alloc (.cells #[.string ⟨#[97]⟩, .int .i64 1, .slice none 0 0, .slice none 0 0, .string ⟨#[98]⟩, .int .i64 1, .slice (some ⟨w.heap.size, 0, none⟩) 1 1, .slice none 0 0, .string ⟨#[116]⟩, .int .i64 2, .slice (some ⟨w.heap.size + 1, 0, none⟩) 1 1, .slice none 0 0] 60) = W := ⟨_, rfl⟩
  obtain ⟨W4, hW4⟩ : ∃ W, W3.alloc (.cells #[.slice (some ⟨w.heap.size + 1 + 1, 0, none⟩) 3 3] 24) = W := ⟨_, rfl⟩
  rw [hW1, hW2, hW3, hW4]
  have z1 : W1.heap.size = w.heap.size + 1 := by rw [← hW1]; simp
  have z2 : W2.heap.size = w.heap.size + 2 := by rw [← hW2]; simp [z1]
  have z3 : W3.heap.size = w.heap.size + 3 := by rw [← hW3]; simp [z2]
  have z4 : W4.heap.size = w.heap.size + 4 := by rw [← hW4]; simp [z3]
  have k1 : Bk W4 w.heap.size 9 #[.string ⟨#[97]⟩] := by rw [← hW4, ← hW3, ← hW2, ← hW1]; exact (((Bk.new w _ _).alloc _).alloc _).alloc _
  have k2 : Bk W4 (w.heap.size + 1) 9 #[.string ⟨#[98]⟩] := by
    rw [← hW4, ← hW3, ← hW2]
    have := ((Bk.new W1 9 #[.string ⟨#[98]⟩]).alloc (.cells #[.string ⟨#[97]⟩, .int .i64 1, .slice none 0 0, .slice none 0 0, .string ⟨#[98]⟩, .int .i64 1, .slice (some ⟨w.heap.size, 0, none⟩) 1 1, .slice none 0 0, .string ⟨#[116]⟩, .int .i64 2, .slice (some ⟨w.heap.size + 1, 0, none⟩) 1 1, .slice none 0 0] 60)).alloc (.cells #[.slice (some ⟨w.heap.size + 1 + 1, 0, none⟩) 3 3] 24)
    rw [z1] at this; exact this
  have k3 : Bk W4 (w.heap.size + 2) 60 #[.string ⟨#[97]⟩, .int .i64 1, .slice none 0 0, .slice none 0 0, .string ⟨#[98]⟩, .int .i64 1, .slice (some ⟨w.heap.size, 0, none⟩) 1 1, .slice none 0 0, .string ⟨#[116]⟩, .int .i64 2, .slice (some ⟨w.heap.size + 1, 0, none⟩) 1 1, .slice none 0 0] := by
    rw [← hW4, ← hW3]
    have := (Bk.new W2 60 #[.string ⟨#[97]⟩, .int .i64 1, .slice none 0 0, .slice none 0 0, .string ⟨#[98]⟩, .int .i64 1, .slice (some ⟨w.heap.size, 0, none⟩) 1 1, .slice none 0 0, .string ⟨#[116]⟩, .int .i64 2, .slice (some ⟨w.heap.size + 1, 0, none⟩) 1 1, .slice none 0 0]).alloc (.cells #[.slice (some ⟨w.heap.size + 1 + 1, 0, none⟩) 3 3] 24)
    rw [z2] at this; exact this
  have k4 : Bk W4 (w.heap.size + 3) 24 #[.slice (some ⟨w.heap.size + 1 + 1, 0, none⟩) 3 3] := by
    rw [← hW4]
    have := Bk.new W3 24 #[.slice (some ⟨w.heap.size + 1 + 1, 0, none⟩) 3 3]
    rw [z3] at this; exact this
  have HB0 : Hid (Below w.heap.size w W4) := by
    rw [← hW4, ← hW3, ← hW2, ← hW1]; exact ((((Below.refl _ w).alloc (Nat.le_refl _) _).alloc (by simp) _).alloc (by simp; omega) _).alloc (by simp; omega) _
  have HS : Hid (Sl W4 W4.heap.size 4 (some ⟨w.heap.size + 1 + 1, 0, none⟩) 3 (flat tgC (awkT (some ⟨w.heap.size, 0, none⟩) (some ⟨w.heap.size + 1, 0, none⟩)))) := Sl.of_bk k3 rfl
  have HOK : Hid (∀ t ∈ awkT (some ⟨w.heap.size, 0, none⟩) (some ⟨w.heap.size + 1, 0, none⟩), TgOk W4 W4.heap.size t) := by
    intro t ht
    have ml : ∀ s ∈ [lA, lB, lT], s.size ≤ maxLen := by decide
    simp only [awkT, List.mem_cons, List.mem_nil_iff, or_false] at ht
    rcases ht with rfl | rfl | rfl
    · exact ⟨Sl.nil _ _ _ _, Nat.le_refl _, Nat.zero_le _, Sl.nil _ _ _ _, Nat.le_refl _, Nat.zero_le _, ml _ (by simp), (fun s hs => by cases hs), (fun s hs => by cases hs)⟩
    · exact ⟨Sl.of_bk k1 rfl, Nat.le_refl _, show 1 ≤ maxLen by decide, Sl.nil _ _ _ _, Nat.le_refl _, Nat.zero_le _, ml _ (by simp), (fun s hs => by rw [List.mem_singleton.1 hs]; exact ml _ (by simp)), (fun s hs => by cases hs)⟩
    · exact ⟨Sl.of_bk k2 rfl, Nat.le_refl _, show 1 ≤ maxLen by decide, Sl.nil _ _ _ _, Nat.le_refl _, Nat.zero_le _, ml _ (by simp), (fun s hs => by rw [List.mem_singleton.1 hs]; exact ml _ (by simp)), (fun s hs => by cases hs)⟩
  have hls : lT.size ≤ maxLen := by decide
  have K4 := Lib.hid k4
  clear k1 k2 k3 k4 z1 z2 z3 hW1 hW2 hW3 hW4
  have HI1 := Lib.hid (inputs_any (some ⟨w.heap.size + 1 + 1, 0, none⟩) 3 3 W4.heap.size (awkT (some ⟨w.heap.size, 0, none⟩) (some ⟨w.heap.size + 1, 0, none⟩)) lT 1 W4 HS.out HOK.out (Nat.le_refl _) (Nat.le_refl _) (by decide) hls)
  refine HI1.out.mono ?_
  rintro e w1 ⟨A1, n1, c1, l1, e1, rfl, s1, m1, x1, hb1, r1⟩
  obtain ⟨rfl, rfl⟩ := awk1 r1
  have K41 := Lib.hid (K4.out.below hb1 (by omega)); have u0 := K41.out.cell 0; simp at u0
  have S1 := Lib.hid s1; have M1 := Lib.hid (Nat.le_trans m1 x1)
  have HB1 := Lib.hid hb1
  have y1 := hb1.size
  have HI2 := Lib.hid (inputs_any (some ⟨w.heap.size + 1 + 1, 0, none⟩) 3 3 W4.heap.size (awkT (some ⟨w.heap.size, 0, none⟩) (some ⟨w.heap.size + 1, 0, none⟩)) lT 2 w1 (HS.out.below hb1 (Nat.le_refl _)) (fun t ht => (HOK.out t ht).below hb1 (Nat.le_refl _)) y1 (Nat.le_refl _) (by decide) hls)
  clear s1 m1 x1 hb1 r1 K4 HI1
  go_wp2_with fail
  refine HI2.out.mono ?_
  rintro e w2 ⟨A2, n2, c2, l2, e2, rfl, s2, m2, x2, hb2, r2⟩
  obtain ⟨rfl, rfl⟩ := awk2 r2
  have y2 := hb2.size
  have K42 := Lib.hid (K41.out.below hb2 (by omega))
  have HB2 : Hid (Below W4.heap.size W4 w2) := HB1.out.trans (hb2.mono y1)
  have S12 := Lib.hid (S1.out.on hb2)
  have S2 := Lib.hid s2; have M2 := Lib.hid (Nat.le_trans m2 x2)
  have HI3 := Lib.hid (inputs_any (some ⟨w.heap.size + 1 + 1, 0, none⟩) 3 3 W4.heap.size (awkT (some ⟨w.heap.size, 0, none⟩) (some ⟨w.heap.size + 1, 0, none⟩)) lT 3 w2 (HS.out.below HB2.out (Nat.le_refl _)) (fun t ht => (HOK.out t ht).below HB2.out (Nat.le_refl _)) (Nat.le_trans y1 y2) (Nat.le_refl _) (by decide) hls)
  clear s2 m2 x2 hb2 r2 K41 HI2 u0 HB1 S1
  have u0 := K42.out.cell 0; simp at u0
  go_wp2_with fail
  refine HI3.out.mono ?_
  rintro e w3 ⟨A3, n3, c3, l3, e3, rfl, s3, m3, x3, hb3, r3⟩
  obtain ⟨rfl, rfl⟩ := awk3 r3
  have y3 := hb3.size
  have HB3 : Hid (Below w.heap.size w w3) := HB0.out.trans ((HB2.out.trans (hb3.mono (Nat.le_trans y1 y2))).mono (by omega))
  have S13 := Lib.hid (S12.out.on hb3); have S23 := Lib.hid (S2.out.on hb3)
  have S3 := Lib.hid s3; have M3 := Lib.hid (Nat.le_trans m3 x3)
  clear s3 m3 x3 hb3 r3 K42 HI3 u0 HB2 S12 S2 HS HOK HB0
  go_wp2_with fail
  have q1 := Sl.of_bk (Bk.new w3 9 #[.string ⟨#[105, 102, 97, 99, 101, 32, 98]⟩, .string ⟨#[115, 111, 117, 114, 99, 101, 32, 116]⟩]) (n := 2) (size := 1) rfl
  refine (sameS_any A1 _ n1 c1 2 2 _ out1 out1 _ (S13.out.boxed _) q1 M1.out).mono ?_
  rintro e w4 ⟨rfl, k, rfl⟩
  rw [decide_eq_true rfl]
  obtain ⟨w4, hw4⟩ : ∃ W, (w3.alloc (.cells #[.string ⟨#[105, 102, 97, 99, 101, 32, 98]⟩, .string ⟨#[115, 111, 117, 114, 99, 101, 32, 116]⟩] 9)).drewN k = W := ⟨_, rfl⟩
  have HB4 : Hid (Below w.heap.size w w4) := by rw [← hw4]; exact below_drewN (HB3.out.alloc (by omega) _) k
  have S24 : Hid (Sl w4 w4.heap.size 1 A2 n2 (strs out2)) := by rw [← hw4]; exact (S23.out.boxed _).drewN k
  have S34 : Hid (Sl w4 w4.heap.size 1 A3 n3 (strs out3)) := by rw [← hw4]; exact (S3.out.boxed _).drewN k
  have y4 := HB4.out.size
  rw [hw4]
  clear q1 HB3 S13 S23 S3 hw4
  go_wp2_with fail
  have q1 := Sl.of_bk (Bk.new w4 9 #[.string ⟨#[99, 111, 100, 101, 32, 97]⟩, .string ⟨#[99, 111, 100, 101, 32, 98]⟩, .string ⟨#[99, 111, 100, 101, 32, 116]⟩]) (n := 3) (size := 1) rfl
  refine (sameS_any A2 _ n2 c2 3 3 _ out2 out2 _ (S24.out.boxed _) q1 M2.out).mono ?_
  rintro e w5 ⟨rfl, k5, rfl⟩
  rw [decide_eq_true rfl]
  obtain ⟨w5, hw5⟩ : ∃ W, (w4.alloc (.cells #[.string ⟨#[99, 111, 100, 101, 32, 97]⟩, .string ⟨#[99, 111, 100, 101, 32, 98]⟩, .string ⟨#[99, 111, 100, 101, 32, 116]⟩] 9)).drewN k5 = W := ⟨_, rfl⟩
  have HB5 : Hid (Below w.heap.size w w5) := by rw [← hw5]; exact below_drewN (HB4.out.alloc (by omega) _) k5
  have S35 : Hid (Sl w5 w5.heap.size 1 A3 n3 (strs out3)) := by rw [← hw5]; exact (S34.out.boxed _).drewN k5
  have y5 := HB5.out.size
  rw [hw5]
  clear q1 HB4 S24 S34 hw5
  go_wp2_with fail
  have q1 := Sl.of_bk (Bk.new w5 9 #[.string ⟨#[112, 114, 111, 103, 114, 97, 109, 32, 116]⟩]) (n := 1) (size := 1) rfl
  refine (sameS_any A3 _ n3 c3 1 1 _ out3 out3 _ (S35.out.boxed _) q1 M3.out).mono ?_
  rintro e w6 ⟨rfl, k6, rfl⟩
  rw [decide_eq_true rfl]
  have HB6 : Hid (Below w.heap.size w ((w5.alloc (.cells #[.string ⟨#[112, 114, 111, 103, 114, 97, 109, 32, 116]⟩] 9)).drewN k6)) := below_drewN (HB5.out.alloc (by omega) _) k6
  clear q1
  go_wp2_with fail
  go_ret
  exact ⟨rfl, HB6.out⟩
end Go.Proofs.YtiphbincnnppdaaGreatDoor

namespace Go.Proofs.YtiphbincnnppdaaGreatDoor
open Go.RowKit Go.Maps

set_option maxRecDepth 100000 in
set_option maxHeartbeats 4000000 in
theorem lawOut_any (fd : Bool) (msg : ByteArray) (A : Option Addr) (n c B : Nat) (fs : List Fl) (s : ByteArray) (w : World) (h0 : Sl w B 2 A n (flat flC fs)) (hB : B ≤ w.heap.size) :
    Calls Tryz.prog 6 #[.agg #[.bool fd, .string msg, .slice A n c], .string s] w (LawEnd w) := by
  have HL := Lib.hid (h0.len flC_len (by omega))
  obtain ⟨W, hW⟩ : ∃ W, w.alloc (.cells #[.bool fd, .string msg, .slice A n c] 50) = W := ⟨_, rfl⟩
  have HB0 : Hid (Below w.heap.size w W) := by rw [← hW]; exact (Below.refl w.heap.size w).alloc (Nat.le_refl _) _
  have K0 : Hid (Bk W w.heap.size 50 #[.bool fd, .string msg, .slice A n c]) := by rw [← hW]; exact Bk.new w _ _
  have zW : W.heap.size = w.heap.size + 1 := by rw [← hW]; simp
  have u0 := K0.out.cell 0; have u1 := K0.out.cell 1; have u2 := K0.out.cell 2
  simp at u0 u1 u2
  have H0 := Lib.hid h0
  have HGR := Lib.hid (greatO_any fd msg A n c B fs W (h0.below HB0.out hB) (by omega))
  clear h0
  go_enter Tryz.func6, Tryz.ntmps6
  go_wp2_with fail
  refine HGR.out.mono ?_
  rintro e w1 ⟨rfl, hb1⟩
  have z1 := hb1.size
  have HB1 : Hid (Below w.heap.size w w1) := HB0.out.trans (hb1.mono (by omega))
  have K1 := Lib.hid (K0.out.below hb1 (by omega))
  clear u0 u1 u2 hb1 hW HGR K0
  cases hg : (decide (400 < msg.size) || !decide (SmallF fs)) with
  | true =>
    go_wp2_with fail
    refine (awake_any _).mono ?_
    rintro e w2 ⟨rfl, hb2⟩
    have HB2 := Lib.hid (HB1.out.trans (hb2.mono (by omega))); clear hb2
    go_wp2_with fail
    go_ret
    exact ⟨rfl, HB2.out⟩
  | false =>
    simp only [Bool.or_eq_false_iff, decide_eq_false_iff_not, Bool.not_eq_false', decide_eq_true_eq] at hg
    obtain ⟨hm, hsm⟩ := hg
    have HSM := Lib.hid hsm
    clear hsm
    by_cases hls : 2000 < s.size
    · have hlz : (2000 : Int) < (s.size : Int) := by omega
      go_wp2_with fail
      refine (awake_any _).mono ?_
      rintro e w2 ⟨rfl, hb2⟩
      have HB2 := Lib.hid (HB1.out.trans (hb2.mono (by omega))); clear hb2
      go_wp2_with fail
      go_ret
      exact ⟨rfl, HB2.out⟩
    · have hlz : ¬ (2000 : Int) < (s.size : Int) := by omega
      have hn30 : n ≤ 30 := by have := HSM.out.1; rw [HL.out] at this; exact this
      have u0 := K1.out.cell 0; have u1 := K1.out.cell 1; have u2 := K1.out.cell 2
      simp at u0 u1 u2
      have HEN := Lib.hid (encodeOutput_any fd msg A n c B fs w1 (H0.out.below HB1.out hB) (by omega) (by unfold maxLen; omega) (smallF_sizes HSM.out).2)
      go_wp2_with fail
      refine HEN.out.mono ?_
      rintro e w2 ⟨rfl, hb2⟩
      have z2 := hb2.size
      have HB2 : Hid (Below w.heap.size w w2) := HB1.out.trans (hb2.mono (by omega))
      have K2 := Lib.hid (K1.out.below hb2 (by omega))
      clear hb2 HEN u0 u1 u2 K1
      have u0 := K2.out.cell 0; have u1 := K2.out.cell 1; have u2 := K2.out.cell 2
      simp at u0 u1 u2
      have HEN := Lib.hid (rencodeOutput_any fd msg A n c B fs w2 (H0.out.below HB2.out hB) (by omega) (by unfold maxLen; omega) (smallF_sizes HSM.out).2)
      go_wp2_with fail
      refine HEN.out.mono ?_
      rintro e w3 ⟨rfl, hb3⟩
      generalize encOR fd msg fs = ee at *
      obtain ⟨es, ez⟩ := ee
      simp only
      have z3 := hb3.size
      have HB3 : Hid (Below w.heap.size w w3) := HB2.out.trans (hb3.mono (by omega))
      clear hb3 HEN u0 u1 u2 K2 HB2
      have HD3 := Lib.hid (decodeOutput_any s w3 (by omega))
      go_wp2_with fail
      refine HD3.out.mono ?_
      rintro e w4 ⟨fd1, msg1, A1, n1, c1, fs1, err1, rfl, s4, m4, hb4, hcase1⟩
      have z4 := hb4.size
      have HB4 : Hid (Below w.heap.size w (w4.alloc (.cells #[.bool fd1, .string msg1, .slice A1 n1 c1] 50))) := (HB3.out.trans (hb4.mono (by omega))).alloc (by omega) _
      have S4 := Lib.hid (s4.boxed (.cells #[.bool fd1, .string msg1, .slice A1 n1 c1] 50))
      have K4 := Lib.hid (Bk.new w4 50 #[.bool fd1, .string msg1, .slice A1 n1 c1])
      have M4 := Lib.hid m4
      have HC1 := Lib.hid hcase1
      clear s4 m4 hb4 HD3 HB3 hcase1
      obtain ⟨W4, hW4⟩ : ∃ W4, w4.alloc (.cells #[.bool fd1, .string msg1, .slice A1 n1 c1] 50) = W4 := ⟨_, rfl⟩
      have zW4 : W4.heap.size = w4.heap.size + 1 := by rw [← hW4]; simp
      rw [hW4] at HB4 S4 K4
      have HD4 := Lib.hid (rdecodeOutput_any s W4 (by omega))
      go_wp2_with fail
      refine HD4.out.mono ?_
      rintro e w5 ⟨fd2, msg2, A2, n2, c2, fs2, err2, rfl, s5, m5, hb5, hcase2⟩
      have HSM2 : Hid (fd1 = fd2 ∧ msg1 = msg2 ∧ fs1 = fs2 ∧ err1 = err2) := by
        rcases HC1.out with ⟨e1, d1⟩ | ⟨e1, a1, a2, a3, d1⟩
        · rcases hcase2 with ⟨e2, d2⟩ | ⟨_, _, _, _, d2⟩
          · have := decP_uniq d1 d2
            simp only [Prod.mk.injEq] at this
            exact ⟨this.1, this.2.1, this.2.2, e1.trans e2.symm⟩
          · exact absurd d1 (d2 _)
        · rcases hcase2 with ⟨_, d2⟩ | ⟨e2, b1, b2, b3, _⟩
          · exact absurd d2 (d1 _)
          · exact ⟨a1.trans b1.symm, a2.trans b2.symm, a3.trans b3.symm, e1.trans e2.symm⟩
      clear hcase2 HC1 hW4
      obtain ⟨rfl, rfl, rfl, rfl⟩ := HSM2.out
      have z5 := hb5.size
      have HB5 : Hid (Below w.heap.size w (w5.alloc (.cells #[.bool fd1, .string msg1, .slice A2 n2 c2] 50))) := (HB4.out.trans (hb5.mono (by omega))).alloc (by omega) _
      have S5 := Lib.hid (s5.boxed (.cells #[.bool fd1, .string msg1, .slice A2 n2 c2] 50))
      have S45 := Lib.hid ((S4.out.on hb5).boxed (.cells #[.bool fd1, .string msg1, .slice A2 n2 c2] 50))
      have K5 := Lib.hid (Bk.new w5 50 #[.bool fd1, .string msg1, .slice A2 n2 c2])
      have K45 := Lib.hid ((K4.out.below hb5 (by omega)).alloc (.cells #[.bool fd1, .string msg1, .slice A2 n2 c2] 50))
      clear s5 m5 hb5 HD4 HB4 S4 K4 HSM2
      obtain ⟨W5, hW5⟩ : ∃ W5, w5.alloc (.cells #[.bool fd1, .string msg1, .slice A2 n2 c2] 50) = W5 := ⟨_, rfl⟩
      have zW5 : W5.heap.size = w5.heap.size + 1 := by rw [← hW5]; simp
      rw [hW5] at HB5 S5 S45 K5 K45
      have u0 := K5.out.cell 0; have u1 := K5.out.cell 1; have u2 := K5.out.cell 2
      have v0 := K45.out.cell 0; have v1 := K45.out.cell 1; have v2 := K45.out.cell 2
      simp at u0 u1 u2 v0 v1 v2
      have HSO := Lib.hid (sameO_any fd1 fd1 msg1 msg1 A1 A2 n1 c1 n2 c2 W5.heap.size fs1 fs1 W5 S45.out S5.out (Nat.le_refl _) M4.out)
      go_wp2_with fail
      refine HSO.out.mono ?_
      rintro e w6 ⟨rfl, hb6⟩
      simp only [and_self, decide_true]
      have z6 := hb6.size
      have HB6 : Hid (Below w.heap.size w w6) := HB5.out.trans (hb6.mono (by omega))
      clear u0 u1 u2 v0 v1 v2 hW5 hb6 HSO K5 K45 S5 S45 HB5
      go_wp2_with fail
      refine (awake_any _).mono ?_
      rintro e w8 ⟨rfl, hb8⟩
      have HB8 := Lib.hid (HB6.out.trans (hb8.mono (by omega))); clear hb8
      go_wp2_with fail
      go_ret
      exact ⟨rfl, HB8.out⟩
end Go.Proofs.YtiphbincnnppdaaGreatDoor
