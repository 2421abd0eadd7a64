/-
  refs.take and the three parts of Decode: a reader that is read part by part.
-/
import Derived.Test.YtikmiabncbhioaaDoorRDec
namespace Go.Proofs.YtikmiabncbhioaaDoor
open Go.RowKit

/-- Blocks that p does not name are as they were. -/
structure Gb (p : Nat → Prop) (w w' : World) : Prop where
  os : w'.os = w.os
  tape : w'.tape = w.tape
  output : w'.output = w.output
  size : w.heap.size ≤ w'.heap.size
  block : ∀ k, k < w.heap.size → ¬ p k → w'.heap[k]? = w.heap[k]?
section
variable {p q : Nat → Prop} {a b c : World}
theorem Gb.refl (p : Nat → Prop) (w : World) : Gb p w w := ⟨rfl, rfl, rfl, Nat.le_refl _, fun _ _ _ => rfl⟩
theorem Gb.trans (h : Gb p a b) (k : Gb p b c) : Gb p a c := ⟨k.os.trans h.os, k.tape.trans h.tape, k.output.trans h.output, Nat.le_trans h.size k.size, fun i hi hp => (k.block i (Nat.lt_of_lt_of_le hi h.size) hp).trans (h.block i hi hp)⟩
theorem Gb.mono (h : Gb p a b) (hq : ∀ k, k < a.heap.size → p k → q k) : Gb q a b := ⟨h.os, h.tape, h.output, h.size, fun i hi hn => h.block i hi (fun hp => hn (hq i hi hp))⟩
theorem Gb.of_below (h : Below a.heap.size a b) : Gb p a b := ⟨h.os, h.tape, h.output, h.size, fun i hi _ => h.block i hi⟩
theorem Gb.below {B : Nat} (h : Gb p a b) (hB : B ≤ a.heap.size) (hp : ∀ k, k < B → ¬ p k) : Below B a b := ⟨h.os, h.tape, h.output, h.size, fun i hi => h.block i (by omega) (hp i hi)⟩
theorem Gb.set {w : World} {x : Nat} (hx : p x) (o : Nat) (v : Value) : Gb p w (w.setCell ⟨x, o, none⟩ v) := ⟨rfl, rfl, rfl, by simp, fun i _ hn => Below.heap_setCell w ⟨x, o, none⟩ v i (fun e => hn (by have e' : i = x := e; rw [e']; exact hx))⟩
theorem Gb.after {x : Nat} (h : Gb p a b) (hx : a.heap.size ≤ x) (o : Nat) (v : Value) : Gb p a (b.setCell ⟨x, o, none⟩ v) := ⟨h.os, h.tape, h.output, by have := h.size; simpa using this, fun i hi hn => (Below.heap_setCell b ⟨x, o, none⟩ v i (fun e => by have e' : i = x := e; omega)).trans (h.block i hi hn)⟩
theorem Gb.bk {x : Nat} {t : TypeId} {cs : Array Value} (h : Gb p a b) (hk : Bk a x t cs) (hx : ¬ p x) : Bk b x t cs := (h.block x hk.lt hx).trans hk
end

def RetTk (v : Value) (rb : Nat) (q : ByteArray) (bad : Bool) (w : World) (e : Ending) (w' : World) : Prop := e = .returned v ∧ Bk w' rb 76 #[.string q, .bool bad] ∧ Gb (fun g => g = rb) w w'

theorem bk_set10 {w : World} {rb : Nat} {t : TypeId} {x y : Value} (h : Bk w rb t #[x, y]) (x' y' : Value) : Bk ((w.setCell ⟨rb, 1, none⟩ y').setCell ⟨rb, 0, none⟩ x') rb t #[x', y'] := by
  have := (h.set 1 y').set 0 x'
  simpa using this
theorem gb_set10 (w : World) (rb : Nat) (x' y' : Value) : Gb (fun g => g = rb) w ((w.setCell ⟨rb, 1, none⟩ y').setCell ⟨rb, 0, none⟩ x') :=
  (Gb.set (p := fun g => g = rb) (x := rb) rfl 1 y').trans (Gb.set (p := fun g => g = rb) (x := rb) rfl 0 x')

set_option maxRecDepth 100000 in
set_option maxHeartbeats 2000000 in
theorem takeText_any (rb : Nat) (q : ByteArray) (bad : Bool) (w : World) (hk : Bk w rb 76 #[.string q, .bool bad]) (hq : q.size ≤ 1000000) :
    Calls Tryd.prog 50 #[.pointer (some ⟨rb, 0, none⟩), .func (.func 51) #[] #[]] w (RetTk (.string (ofL (getT (toL q)).1)) rb (q.extract (getT (toL q)).2.1 q.size) (bad || (getT (toL q)).2.2 != 0) w) := by
  have hgt := getT_le (toL q)
  rw [← size_toL] at hgt
  have HK := Lib.hid hk
  obtain ⟨x0, x1, f0, f1⟩ := hk.agg
  clear hk
  go_enter Tryd.func50, Tryd.ntmps50
  go_wp2_with fail
  refine (getText_any q (by unfold maxLen; omega) _).mono ?_
  generalize getT (toL q) = g at *
  obtain ⟨t, m, e⟩ := g
  obtain ⟨ts, hts⟩ : ∃ ts, ofL t = ts := ⟨_, rfl⟩
  rintro e' w' ⟨rfl, rfl⟩
  simp only at hgt ⊢
  rw [hts]
  have HTS := Lib.hid hts
  clear hts
  have hmi : (m : Int) ≤ (q.size : Int) := by omega
  cases bad with
  | true =>
    go_wp2
    go_ret
    exact ⟨by rw [HTS.out]; rfl, bk_set10 HK.out _ _, gb_set10 _ _ _ _⟩
  | false =>
    go_wp2
    go_ret
    exact ⟨by rw [HTS.out]; rfl, bk_set10 HK.out _ _, gb_set10 _ _ _ _⟩

set_option maxRecDepth 100000 in
set_option maxHeartbeats 2000000 in
theorem takeInt_any (rb : Nat) (q : ByteArray) (bad : Bool) (w : World) (hk : Bk w rb 76 #[.string q, .bool bad]) :
    Calls Tryd.prog 56 #[.pointer (some ⟨rb, 0, none⟩), .func (.func 57) #[] #[]] w (RetTk (.int .i64 (getI (toL q)).1) rb (q.extract (getI (toL q)).2.1 q.size) (bad || (getI (toL q)).2.2 != 0) w) := by
  have hgt := getI_le (toL q)
  rw [← size_toL] at hgt
  have HK := Lib.hid hk
  obtain ⟨x0, x1, f0, f1⟩ := hk.agg
  clear hk
  go_enter Tryd.func56, Tryd.ntmps56
  go_wp2_with fail
  refine (getInt_any q _).mono ?_
  generalize getI (toL q) = g at *
  obtain ⟨t, m, e⟩ := g
  rintro e' w' ⟨rfl, rfl⟩
  simp only at hgt ⊢
  have hmi : (m : Int) ≤ (q.size : Int) := by omega
  cases bad with
  | true =>
    go_wp2
    go_ret
    exact ⟨rfl, bk_set10 HK.out _ _, gb_set10 _ _ _ _⟩
  | false =>
    go_wp2
    go_ret
    exact ⟨rfl, bk_set10 HK.out _ _, gb_set10 _ _ _ _⟩

theorem getDg_le (l : Bytes) : (getDg l).2.1 ≤ l.length := by
  unfold getDg
  split
  · simp
  · simp; omega
set_option maxRecDepth 100000 in
set_option maxHeartbeats 2000000 in
theorem takeDg_any (rb : Nat) (q : ByteArray) (bad : Bool) (w : World) (hk : Bk w rb 76 #[.string q, .bool bad]) (hq : q.size ≤ 1000000) :
    Calls Tryd.prog 53 #[.pointer (some ⟨rb, 0, none⟩), .func (.func 54) #[] #[]] w (RetTk (digV (getDg (toL q)).1) rb (q.extract (getDg (toL q)).2.1 q.size) (bad || (getDg (toL q)).2.2 != 0) w) := by
  have hgt := getDg_le (toL q)
  rw [← size_toL] at hgt
  have hlt := hk.lt
  have hka := hk.alloc (.cells #[.int .u64 0, .int .u64 0] 28)
  obtain ⟨x0, x1, f0, f1⟩ := hka.agg
  have HK := Lib.hid hka
  have K4 := Lib.hid (Bk.new w 28 #[.int .u64 0, .int .u64 0])
  clear hk hka
  go_enter Tryd.func53, Tryd.ntmps53
  go_wp2_with fail
  refine (getDigest_any q (by unfold maxLen; omega) _).mono ?_
  generalize getDg (toL q) = g at *
  obtain ⟨⟨a, b⟩, m, e⟩ := g
  rintro e' w2 ⟨rfl, hb2⟩
  simp only [digV] at hgt ⊢
  have hz2 : w.heap.size + 1 ≤ w2.heap.size := by have := hb2.size; simp at this; omega
  have J := Lib.hid ((HK.out.below hb2 (by simp; omega)).alloc (.cells #[.int .u64 a, .int .u64 b] 28))
  have J4 := Lib.hid ((K4.out.below hb2 (by simp)).alloc (.cells #[.int .u64 a, .int .u64 b] 28))
  have J5 := Lib.hid (Bk.new w2 28 #[.int .u64 a, .int .u64 b])
  have G2 : Hid (Gb (fun g => g = rb) w (w2.alloc (.cells #[.int .u64 a, .int .u64 b] 28))) := (Gb.of_below ((Below.refl _ w).alloc (Nat.le_refl _) _)).trans ((Gb.of_below hb2).trans (Gb.of_below ((Below.refl _ w2).alloc (Nat.le_refl _) _)))
  clear hb2 x0 x1 f0 f1
  obtain ⟨x0, x1, f0, f1⟩ := J.out.agg
  obtain ⟨y0, y1, g0, g1⟩ := J4.out.agg
  have hne1 : rb ≠ w.heap.size := by omega
  have hne2 : rb ≠ w2.heap.size := by omega
  have hmi : (m : Int) ≤ (q.size : Int) := by omega
  cases bad with
  | true =>
    go_wp2
    exact bodyPost_ret (res_one28 Tryd.results53 rfl (((J4.out.far (p := ⟨rb, 1, none⟩) hne1.symm _).far (p := ⟨rb, 0, none⟩) hne1.symm _).set2 _ _)) rfl
      ⟨rfl, ((bk_set10 J.out _ _).far (p := ⟨w.heap.size, 0, none⟩) hne1 _).far (p := ⟨w.heap.size, 1, none⟩) hne1 _, ((G2.out.trans (gb_set10 _ _ _ _)).after (Nat.le_refl _) 0 _).after (Nat.le_refl _) 1 _⟩
  | false =>
    go_wp2
    exact bodyPost_ret (res_one28 Tryd.results53 rfl (((J4.out.far (p := ⟨rb, 1, none⟩) hne1.symm _).far (p := ⟨rb, 0, none⟩) hne1.symm _).set2 _ _)) rfl
      ⟨rfl, ((bk_set10 J.out _ _).far (p := ⟨w.heap.size, 0, none⟩) hne1 _).far (p := ⟨w.heap.size, 1, none⟩) hne1 _, ((G2.out.trans (gb_set10 _ _ _ _)).after (Nat.le_refl _) 0 _).after (Nat.le_refl _) 1 _⟩

/-- a part of Decode: it reads one field of the update in block ub -/
def RetPt (rb ub : Nat) (q : ByteArray) (bad : Bool) (cs : Array Value) (w : World) (e : Ending) (w' : World) : Prop := e = .returned (.tuple #[]) ∧ Bk w' rb 76 #[.string q, .bool bad] ∧ Bk w' ub 30 cs ∧ Gb (fun g => g = rb ∨ g = ub) w w'
theorem Gb.or1 {rb ub : Nat} {a b : World} (h : Gb (fun g => g = rb) a b) : Gb (fun g => g = rb ∨ g = ub) a b := h.mono fun _ _ e => .inl e

set_option maxRecDepth 100000 in
set_option maxHeartbeats 2000000 in
theorem part1_any (rb ub : Nat) (q : ByteArray) (bad : Bool) (s : ByteArray) (a b c d : Int) (w : World) (hk : Bk w rb 76 #[.string q, .bool bad]) (hu : Bk w ub 30 #[.string s, .int .u64 a, .int .u64 b, .int .u64 c, .int .u64 d]) (hq : q.size ≤ 1000000) (hne : rb ≠ ub) :
    Calls Tryd.prog 49 #[.pointer (some ⟨rb, 0, none⟩), .pointer (some ⟨ub, 0, none⟩)] w (RetPt rb ub (q.extract (getT (toL q)).2.1 q.size) (bad || (getT (toL q)).2.2 != 0) #[.string (ofL (getT (toL q)).1), .int .u64 a, .int .u64 b, .int .u64 c, .int .u64 d] w) := by
  have HK := Lib.hid hk; have HU := Lib.hid hu
  clear hk hu
  go_enter Tryd.func49, Tryd.ntmps49
  go_wp2_with fail
  refine (takeText_any rb q bad _ HK.out hq).mono ?_
  generalize ofL (getT (toL q)).1 = ts at *
  generalize q.extract (getT (toL q)).2.1 q.size = q' at *
  generalize (bad || (getT (toL q)).2.2 != 0) = b' at *
  rintro e w1 ⟨rfl, k1, g1⟩
  have U1 := g1.bk HU.out (fun e => hne e.symm)
  have HU1 := Lib.hid U1; have HK1 := Lib.hid k1; have HG1 := Lib.hid g1
  have u0 := U1.cell 0; have f0 := U1.free 0
  simp at u0
  clear U1 k1 g1
  go_wp2
  go_end0
  exact ⟨rfl, HK1.out.far (p := ⟨ub, 0, none⟩) hne _, by have := HU1.out.set 0 (.string ts); simpa using this, HG1.out.or1.trans (Gb.set (.inr rfl) 0 _)⟩

set_option maxRecDepth 100000 in
set_option maxHeartbeats 2000000 in
theorem part2_any (rb ub : Nat) (q : ByteArray) (bad : Bool) (s : ByteArray) (a b c d : Int) (w : World) (hk : Bk w rb 76 #[.string q, .bool bad]) (hu : Bk w ub 30 #[.string s, .int .u64 a, .int .u64 b, .int .u64 c, .int .u64 d]) (hq : q.size ≤ 1000000) (hne : rb ≠ ub) :
    Calls Tryd.prog 52 #[.pointer (some ⟨rb, 0, none⟩), .pointer (some ⟨ub, 0, none⟩)] w (RetPt rb ub (q.extract (getDg (toL q)).2.1 q.size) (bad || (getDg (toL q)).2.2 != 0) #[.string s, .int .u64 (getDg (toL q)).1.1, .int .u64 (getDg (toL q)).1.2, .int .u64 c, .int .u64 d] w) := by
  have HK := Lib.hid hk; have HU := Lib.hid hu
  clear hk hu
  go_enter Tryd.func52, Tryd.ntmps52
  go_wp2_with fail
  refine (takeDg_any rb q bad _ HK.out hq).mono ?_
  generalize getDg (toL q) = g at *
  obtain ⟨⟨x, y⟩, m, ee⟩ := g
  simp only [digV]
  generalize q.extract m q.size = q' at *
  generalize (bad || ee != 0) = b' at *
  rintro e w1 ⟨rfl, k1, g1⟩
  have U1 := g1.bk HU.out (fun e => hne e.symm)
  have HU1 := Lib.hid U1; have HK1 := Lib.hid k1; have HG1 := Lib.hid g1
  have u1 := U1.cell 1; have u2 := U1.cell 2; have f1 := U1.free 1; have f2 := U1.free 2
  simp at u1 u2
  clear U1 k1 g1
  go_wp2
  go_end0
  exact ⟨rfl, (HK1.out.far (p := ⟨ub, 1, none⟩) hne _).far (p := ⟨ub, 2, none⟩) hne _, by have := (HU1.out.set 1 (.int .u64 x)).set 2 (.int .u64 y); simpa using this, (HG1.out.or1.trans (Gb.set (.inr rfl) 1 _)).trans (Gb.set (.inr rfl) 2 _)⟩

set_option maxRecDepth 100000 in
set_option maxHeartbeats 2000000 in
theorem part3_any (rb ub : Nat) (q : ByteArray) (bad : Bool) (s : ByteArray) (a b c d : Int) (w : World) (hk : Bk w rb 76 #[.string q, .bool bad]) (hu : Bk w ub 30 #[.string s, .int .u64 a, .int .u64 b, .int .u64 c, .int .u64 d]) (hq : q.size ≤ 1000000) (hne : rb ≠ ub) :
    Calls Tryd.prog 55 #[.pointer (some ⟨rb, 0, none⟩), .pointer (some ⟨ub, 0, none⟩)] w (RetPt rb ub (q.extract (getDg (toL q)).2.1 q.size) (bad || (getDg (toL q)).2.2 != 0) #[.string s, .int .u64 a, .int .u64 b, .int .u64 (getDg (toL q)).1.1, .int .u64 (getDg (toL q)).1.2] w) := by
  have HK := Lib.hid hk; have HU := Lib.hid hu
  clear hk hu
  go_enter Tryd.func55, Tryd.ntmps55
  go_wp2_with fail
  refine (takeDg_any rb q bad _ HK.out hq).mono ?_
  generalize getDg (toL q) = g at *
  obtain ⟨⟨x, y⟩, m, ee⟩ := g
  simp only [digV]
  generalize q.extract m q.size = q' at *
  generalize (bad || ee != 0) = b' at *
  rintro e w1 ⟨rfl, k1, g1⟩
  have U1 := g1.bk HU.out (fun e => hne e.symm)
  have HU1 := Lib.hid U1; have HK1 := Lib.hid k1; have HG1 := Lib.hid g1
  have u1 := U1.cell 3; have u2 := U1.cell 4; have f1 := U1.free 3; have f2 := U1.free 4
  simp at u1 u2
  clear U1 k1 g1
  go_wp2
  go_end0
  exact ⟨rfl, (HK1.out.far (p := ⟨ub, 3, none⟩) hne _).far (p := ⟨ub, 4, none⟩) hne _, by have := (HU1.out.set 3 (.int .u64 x)).set 4 (.int .u64 y); simpa using this, (HG1.out.or1.trans (Gb.set (.inr rfl) 3 _)).trans (Gb.set (.inr rfl) 4 _)⟩
end Go.Proofs.YtikmiabncbhioaaDoor
