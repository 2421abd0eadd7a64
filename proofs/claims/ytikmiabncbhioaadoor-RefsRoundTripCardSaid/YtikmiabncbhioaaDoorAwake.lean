/-
  The anchor: the chapter's example.
-/
import Derived.Test.YtikmiabncbhioaaDoorGUpt
namespace Go.Proofs.YtikmiabncbhioaaDoor
open Go.RowKit Go.Maps

def trunk : ByteArray := ⟨#[116, 114, 117, 110, 107]⟩
def upT : Upd := (trunk, (0, 0), (1, 2))
theorem awake1 : updateR [] [] upT = ([(trunk, (1, 2))], [upT], 0) := by kernel_rfl
theorem awake2 : updateR [(trunk, (1, 2))] [upT] upT = ([], [], 17) := by kernel_rfl

/-- what is handed back stays while a box is made -/
theorem Sl.boxed {w : World} {size n : Nat} {A : Option Addr} {xs : List Value} (h : Sl w w.heap.size size A n xs) (o : Obj) : Sl (w.alloc o) (w.alloc o).heap.size size A n xs := (h.alloc (Nat.le_refl _) o).more (by simp)
theorem Sl.on {w w' : World} {size n : Nat} {A : Option Addr} {xs : List Value} (h : Sl w w.heap.size size A n xs) (hb : Below w.heap.size w w') : Sl w' w'.heap.size size A n xs := (h.below hb (Nat.le_refl _)).more hb.size

set_option maxRecDepth 100000 in
set_option maxHeartbeats 2000000 in
theorem awake_any (w : World) : Calls Tryd.prog 13 #[] w fun e w' => e = .returned (.bool true) ∧ Below w.heap.size w w' := by
  have hst : trunk.size ≤ maxLen := by decide
  go_enter Tryd.func13, Tryd.ntmps13
  go_wp2_with fail
  have hbel : Below w.heap.size w ((w.alloc (.cells #[.int .u64 1, .int .u64 2] 28)).alloc (.cells #[.string ⟨#[116, 114, 117, 110, 107]⟩, .int .u64 0, .int .u64 0, .int .u64 1, .int .u64 2] 30)) := ((Below.refl _ w).alloc (Nat.le_refl _) _).alloc (by simp) _
  have k1 : Bk ((w.alloc (.cells #[.int .u64 1, .int .u64 2] 28)).alloc (.cells #[.string ⟨#[116, 114, 117, 110, 107]⟩, .int .u64 0, .int .u64 0, .int .u64 1, .int .u64 2] 30)) w.heap.size 28 #[.int .u64 1, .int .u64 2] := (Bk.new w 28 _).alloc _
  have k2 : Bk ((w.alloc (.cells #[.int .u64 1, .int .u64 2] 28)).alloc (.cells #[.string ⟨#[116, 114, 117, 110, 107]⟩, .int .u64 0, .int .u64 0, .int .u64 1, .int .u64 2] 30)) (w.heap.size + 1) 30 #[.string ⟨#[116, 114, 117, 110, 107]⟩, .int .u64 0, .int .u64 0, .int .u64 1, .int .u64 2] := by
    have := Bk.new (w.alloc (.cells #[.int .u64 1, .int .u64 2] 28)) 30 #[.string ⟨#[116, 114, 117, 110, 107]⟩, .int .u64 0, .int .u64 0, .int .u64 1, .int .u64 2]
    rw [World.size_alloc] at this
    exact this
  refine (update_any none none 0 0 0 0 0 [] [] upT _ (Sl.nil _ _ _ _) (Sl.nil _ _ _ _) (Nat.zero_le _) (Nat.zero_le _) (Nat.zero_le _) hst (by simp)).mono ?_
  rw [awake1]
  rintro e w1 ⟨A, m, c, A', m', c', rfl, s1, s2, s3, s4, s5, s6, hb1⟩
  simp only at s1 s4 ⊢
  have hz1 : w.heap.size + 2 ≤ w1.heap.size := by have := hb1.size; simp at this; omega
  have j1 := k1.below hb1 (by simp; omega)
  have j2 := k2.below hb1 (by simp)
  have HB1 := Lib.hid (hbel.trans (hb1.mono (by simp; omega)))
  clear hbel k1 k2 hb1
  have J1 := Lib.hid (j1.alloc (.cells #[.slice A m c, .slice A' m' c'] 25)); have J2 := Lib.hid (j2.alloc (.cells #[.slice A m c, .slice A' m' c'] 25))
  have u0 := J2.out.cell 0; have u1 := J2.out.cell 1; have u2 := J2.out.cell 2; have u3 := J2.out.cell 3; have u4 := J2.out.cell 4
  simp at u0 u1 u2 u3 u4
  have q0 := j2.cell 0; have q1 := j2.cell 1; have q2 := j2.cell 2; have q3 := j2.cell 3; have q4 := j2.cell 4
  simp at q0 q1 q2 q3 q4
  have S1 := Lib.hid (s1.boxed (.cells #[.slice A m c, .slice A' m' c'] 25)); have S4 := Lib.hid (s4.boxed (.cells #[.slice A m c, .slice A' m' c'] 25)); have S3 := Lib.hid s3; have S6 := Lib.hid s6
  clear s1 s4 s3 s6 j1 j2
  go_wp2_with fail
  refine (update_any A A' m c m' c' _ _ _ upT _ S1.out S4.out (Nat.le_refl _) (Nat.le_trans s2 S3.out) (Nat.le_trans s5 S6.out) hst (by intro u hu; rw [List.mem_singleton.1 hu]; exact hst)).mono ?_
  rw [awake2]
  rintro e w2 ⟨A2, m2, c2, A2', m2', c2', rfl, _, _, _, _, _, _, hb2⟩
  have j3 := ((Bk.new w1 25 #[.slice A m c, .slice A' m' c']).below hb2 (by simp)).alloc (.cells #[.slice A2 m2 c2, .slice A2' m2' c2'] 25)
  have j1 := (J1.out.below hb2 (by simp; omega)).alloc (.cells #[.slice A2 m2 c2, .slice A2' m2' c2'] 25)
  have j2 := (J2.out.below hb2 (by simp; omega)).alloc (.cells #[.slice A2 m2 c2, .slice A2' m2' c2'] 25)
  have hz2 : w1.heap.size + 1 ≤ w2.heap.size := by have := hb2.size; simp at this; omega
  have T1 := Lib.hid ((S1.out.on hb2).boxed (.cells #[.slice A2 m2 c2, .slice A2' m2' c2'] 25)); have T4 := Lib.hid ((S4.out.on hb2).boxed (.cells #[.slice A2 m2 c2, .slice A2' m2' c2'] 25))
  have HB2 : Hid (Below w.heap.size w (w2.alloc (.cells #[.slice A2 m2 c2, .slice A2' m2' c2'] 25))) := ((HB1.out.alloc (by omega) _).trans (hb2.mono (by simp; omega))).alloc (by omega) _
  clear hb2 q0 q1 q2 q3 q4 u0 u1 u2 u3 u4 J1 J2 S1 S4
  have HX := Lib.hid (show w1.heap.size + 1 ≤ (w2.alloc (.cells #[.slice A2 m2 c2, .slice A2' m2' c2'] 25)).heap.size by simp; omega)
  have G3 := Lib.hid j3
  obtain ⟨x0, x1, _, _⟩ := j3.agg
  have d0 := j1.cell 0; have d1 := j1.cell 1
  have u0 := j2.cell 0; have u1 := j2.cell 1; have u2 := j2.cell 2; have u3 := j2.cell 3; have u4 := j2.cell 4
  simp at d0 d1 u0 u1 u2 u3 u4
  have a2 := j2.alloc (.cells #[.string ⟨#[116, 114, 117, 110, 107]⟩, .int .u64 1, .int .u64 2] 56)
  have v0 := a2.cell 0; have v1 := a2.cell 1; have v2 := a2.cell 2; have v3 := a2.cell 3; have v4 := a2.cell 4
  simp at v0 v1 v2 v3 v4
  clear j3 j1 j2 a2
  go_wp2_with fail
  have hs2 := (Sl.new (w2.alloc (.cells #[.slice A2 m2 c2, .slice A2' m2' c2'] 25)) 56 (flat rfC [(trunk, (1, 2))]) 1 (size := 3) rfl).alloc (by simp) (.cells #[.string ⟨#[116, 114, 117, 110, 107]⟩, .int .u64 0, .int .u64 0, .int .u64 1, .int .u64 2] 30)
  have hs3 := Sl.new ((w2.alloc (.cells #[.slice A2 m2 c2, .slice A2' m2' c2'] 25)).alloc (.cells #[.string ⟨#[116, 114, 117, 110, 107]⟩, .int .u64 1, .int .u64 2] 56)) 30 (flat upC [upT]) 1 (size := 5) rfl
  simp only [World.size_alloc] at hs2 hs3
  refine (same_any A A' _ _ m c m' c' 1 1 1 1 (w2.heap.size + 1 + 1 + 1) _ _ _ _ _ ((((T1.out.boxed _).boxed _)).more (by simp)) ((((T4.out.boxed _).boxed _)).more (by simp)) (hs2.more (by omega)) hs3 (by simp) (Nat.le_trans s2 S3.out) (Nat.le_trans s5 S6.out)).mono ?_
  rintro e w3 ⟨rfl, hb3⟩
  rw [show (decide ([(trunk, ((1, 2) : Dig))] = [(trunk, (1, 2))]) && decide ([upT] = [upT])) = true by simp]
  have HB3 := Lib.hid (((HB2.out.alloc (by simp; omega) (.cells #[.string ⟨#[116, 114, 117, 110, 107]⟩, .int .u64 1, .int .u64 2] 56)).alloc (by simp; omega) (.cells #[.string ⟨#[116, 114, 117, 110, 107]⟩, .int .u64 0, .int .u64 0, .int .u64 1, .int .u64 2] 30)).trans (hb3.mono (by simp; omega)))
  clear hb3 hs2 hs3
  go_wp2_with fail
  go_ret
  exact ⟨rfl, HB3.out⟩
end Go.Proofs.YtikmiabncbhioaaDoor
