/-
  Lemmas of the card.
-/
import Derived.Test.YtlcecobipgmafaaGreatDoorNCNd6
import Derived.Test.YtlcecobipgmafaaGreatDoorNCNd5
import Derived.Test.YtlcecobipgmafaaGreatDoorNCNd4
set_option maxRecDepth 100000
set_option maxHeartbeats 16000000
namespace Go.Proofs.YtlcecobipgmafaaGreatDoor
open Go.RowKit
theorem aQ {w : World} {b : Nat} {t : TypeId} {x0 x1 x2 x3 x4 x5 x6 x7 x8 : Value} (h : Bk w b t #[x0, x1, x2, x3, x4, x5, x6, x7, x8]) (y0 y1 y2 y3 y4 y5 y6 y7 y8 : Value) : Bk (((((((((w.setCell ⟨b, 0, none⟩ y0).setCell ⟨b, 1, none⟩ y1).setCell ⟨b, 2, none⟩ y2).setCell ⟨b, 3, none⟩ y3).setCell ⟨b, 4, none⟩ y4).setCell ⟨b, 5, none⟩ y5).setCell ⟨b, 6, none⟩ y6).setCell ⟨b, 7, none⟩ y7).setCell ⟨b, 8, none⟩ y8) b t #[y0, y1, y2, y3, y4, y5, y6, y7, y8] := by
 have := (((((((((h.set 0 y0).set 1 y1).set 2 y2).set 3 y3).set 4 y4).set 5 y5).set 6 y6).set 7 y7).set 8 y8)
 simpa using this
theorem aP {B b : Nat} {w0 w : World} (h : Below B w0 w) (hb : B <= b) (y0 y1 y2 y3 y4 y5 y6 y7 y8 : Value) : Below B w0 (((((((((w.setCell ⟨b, 0, none⟩ y0).setCell ⟨b, 1, none⟩ y1).setCell ⟨b, 2, none⟩ y2).setCell ⟨b, 3, none⟩ y3).setCell ⟨b, 4, none⟩ y4).setCell ⟨b, 5, none⟩ y5).setCell ⟨b, 6, none⟩ y6).setCell ⟨b, 7, none⟩ y7).setCell ⟨b, 8, none⟩ y8) :=
 ((((((((h.setCell (p := ⟨b, 0, none⟩) hb y0).setCell (p := ⟨b, 1, none⟩) hb y1).setCell (p := ⟨b, 2, none⟩) hb y2).setCell (p := ⟨b, 3, none⟩) hb y3).setCell (p := ⟨b, 4, none⟩) hb y4).setCell (p := ⟨b, 5, none⟩) hb y5).setCell (p := ⟨b, 6, none⟩) hb y6).setCell (p := ⟨b, 7, none⟩) hb y7).setCell (p := ⟨b, 8, none⟩) hb y8
theorem Apd.set9 {w : World} {base size n c b : Nat} {e : TypeId} {A : OA} {xs : List Value} (h : Apd w base e size A n c xs) (hb : b < base) (y0 y1 y2 y3 y4 y5 y6 y7 y8 : Value) : Apd (((((((((w.setCell ⟨b, 0, none⟩ y0).setCell ⟨b, 1, none⟩ y1).setCell ⟨b, 2, none⟩ y2).setCell ⟨b, 3, none⟩ y3).setCell ⟨b, 4, none⟩ y4).setCell ⟨b, 5, none⟩ y5).setCell ⟨b, 6, none⟩ y6).setCell ⟨b, 7, none⟩ y7).setCell ⟨b, 8, none⟩ y8) base e size A n c xs :=
 ((((((((h.setCell (a := ⟨b, 0, none⟩) hb y0).setCell (a := ⟨b, 1, none⟩) hb y1).setCell (a := ⟨b, 2, none⟩) hb y2).setCell (a := ⟨b, 3, none⟩) hb y3).setCell (a := ⟨b, 4, none⟩) hb y4).setCell (a := ⟨b, 5, none⟩) hb y5).setCell (a := ⟨b, 6, none⟩) hb y6).setCell (a := ⟨b, 7, none⟩) hb y7).setCell (a := ⟨b, 8, none⟩) hb y8
theorem aX {fn : Func} {c i : Tmp} (h : fn.results = #[.cell c 75, .tmp i]) {w : World} {a : Array Value} {b : Nat} {x0 x1 x2 x3 x4 x5 x6 x7 x8 v : Value} (ha : a[c]?.getD undef = .pointer (some ⟨b, 0, none⟩)) (hk : Bk w b 75 #[x0, x1, x2, x3, x4, x5, x6, x7, x8]) (hv : a[i]?.getD undef = v) :
  (results fn a).run Tryz.prog w = .ok (.tuple #[.agg #[x0, x1, x2, x3, x4, x5, x6, x7, x8], v]) w := by
 obtain ⟨h0, h1, h2, h3, h4, h5, h6, h7, h8⟩ := hk.nine; simp [results, h, ha, hv, go_sem, h0, h1, h2, h3, h4, h5, h6, h7, h8]
def NewO (w : World) (b : Nat) (s : Osl) : Prop := ∀ a, 0 < s.en -> s.eA = some a -> b <= a.block /\ ∃ cur, w.heap[a.block]? = some (.cells cur 111 (0, 0))
theorem NewO.none (w : World) (b : Nat) {s : Osl} (h : s.en = 0) : NewO w b s := fun _ h0 => absurd h0 (by rw [h]; exact Nat.lt_irrefl 0)
theorem NewO.mono {w : World} {b b' : Nat} {s : Osl} (h : NewO w b s) (hb : b' <= b) : NewO w b' s := fun a h1 h2 => ⟨Nat.le_trans hb (h a h1 h2).1, (h a h1 h2).2⟩
theorem NewO.keep {w w' : World} {b bx : Nat} {t : TypeId} {cs : Array Value} {s : Osl} (h : NewO w b s) (hz : Bk w bx t cs) (ht : t ≠ 111) (hk : ∀ k, k ≠ bx -> w'.heap[k]? = w.heap[k]?) : NewO w' b s := fun a h1 h2 => by
 obtain ⟨h3, cur, h4⟩ := h a h1 h2; refine ⟨h3, cur, (hk a.block (fun e => ?_)).trans h4⟩; rw [e] at h4; have h5 : w.heap[bx]? = some (.cells cs t (0, 0)) := hz; rw [h4] at h5; injection h5 with h5; injection h5 with _ h6; exact ht h6.symm
theorem Apd.newO {w : World} {base n c c2 : Nat} {A : OA} {xs : List Value} (h : Apd w base 111 4 A n c xs) {b : Nat} (hb : b <= base) {s : Osl} (hs : s.eA = A /\ s.en = n /\ s.ec = c2) : NewO w b s := by
 obtain ⟨h1, h2, _⟩ := hs; rintro a hn hA; rw [h1] at hA; rw [h2] at hn; subst hA; rcases h with ⟨_, ⟨_, h0⟩ | ⟨g, cap, cur, hv, h5, h3, _⟩⟩ | ⟨h0, _⟩
 . omega
 . injection hv with hA
   cases hA
   exact ⟨Nat.le_trans hb h5, cur, h3⟩
 . omega
def NewP (w : World) (b : Nat) (s : Osl) : Prop := ∀ a, 0 < s.pn -> s.pA = some a -> b <= a.block /\ ∃ cur, w.heap[a.block]? = some (.cells cur 42 (0, 0))
theorem NewP.none (w : World) (b : Nat) {s : Osl} (h : s.pn = 0) : NewP w b s := fun _ h0 => absurd h0 (by rw [h]; exact Nat.lt_irrefl 0)
theorem NewP.mono {w : World} {b b' : Nat} {s : Osl} (h : NewP w b s) (hb : b' <= b) : NewP w b' s := fun a h1 h2 => ⟨Nat.le_trans hb (h a h1 h2).1, (h a h1 h2).2⟩
theorem NewP.keep {w w' : World} {b bx : Nat} {t : TypeId} {cs : Array Value} {s : Osl} (h : NewP w b s) (hz : Bk w bx t cs) (ht : t ≠ 42) (hk : ∀ k, k ≠ bx -> w'.heap[k]? = w.heap[k]?) : NewP w' b s := fun a h1 h2 => by
 obtain ⟨h3, cur, h4⟩ := h a h1 h2; refine ⟨h3, cur, (hk a.block (fun e => ?_)).trans h4⟩; rw [e] at h4; have h5 : w.heap[bx]? = some (.cells cs t (0, 0)) := hz; rw [h4] at h5; injection h5 with h5; injection h5 with _ h6; exact ht h6.symm
theorem Apd.newP {w : World} {base n c c2 : Nat} {A : OA} {xs : List Value} (h : Apd w base 42 2 A n c xs) {b : Nat} (hb : b <= base) {s : Osl} (hs : s.pA = A /\ s.pn = n /\ s.pc = c2) : NewP w b s := by
 obtain ⟨h1, h2, _⟩ := hs; rintro a hn hA; rw [h1] at hA; rw [h2] at hn; subst hA; rcases h with ⟨_, ⟨_, h0⟩ | ⟨g, cap, cur, hv, h5, h3, _⟩⟩ | ⟨h0, _⟩
 . omega
 . injection hv with hA
   cases hA
   exact ⟨Nat.le_trans hb h5, cur, h3⟩
 . omega
def OdE (o : Ob) (w : World) (e : Ending) (w' : World) : Prop := ∃ s, e = .returned (.tuple #[obV o s, .int .i64 0]) /\ ObM w' w'.heap.size o s /\ Below w.heap.size w w' /\ NewO w' w.heap.size s /\ NewP w' w.heap.size s
theorem zY (o : Ob) (w : World) (ho : OkO o) : Calls Tryz.prog 56 #[.string (ofL (aB o))] w (OdE o w) := by
 have HO := ah ho; have hlen := ho.len; cases ho.f with
 | blob k e c d =>
   have HENC : aB o = aj o.kind.toNat ++ (au (toL o.data) ++ []) := by unfold aB bW; rw [if_neg (by omega), if_neg (by omega), List.append_nil]
   obtain ⟨h1, h2, h3, h4, h5⟩ := c; obtain ⟨kind, data, ents, tree, pars, auth, time, msg⟩ := o; simp only at k e h1 h2 h3 h4 h5 d HENC; subst e h1 h2 h3 h4 h5; rcases k with rfl | rfl
   . have HENC : aB _ = aj 1 ++ (au (toL data) ++ []) := HENC
     obtain ⟨s, hs⟩ : ∃ s, ofL (aB (⟨1, data, [], zD, [], ⟨#[]⟩, 0, ⟨#[]⟩⟩ : Ob)) = s := ⟨_, rfl⟩
     rw [hs]; have hlr : (aj 1 ++ (au (toL data) ++ [])).length <= 1000000 := by rw [<- HENC]; omega
     have hle : (au (toL data) ++ []).length <= 1000000 := by rw [List.length_append] at hlr; omega
     obtain ⟨W1, hW1⟩ : ∃ W, (w.alloc (.cells #[.int .i64 0, .string ⟨#[]⟩, .slice none 0 0, .int .u64 0, .int .u64 0, .slice none 0 0, .string ⟨#[]⟩, .int .i64 0, .string ⟨#[]⟩] 75)).alloc (.cells #[.string s, .bool false] 139) = W := ⟨_, rfl⟩
     have HZ1 : Hid (Bk W1 w.heap.size 75 #[.int .i64 0, .string ⟨#[]⟩, .slice none 0 0, .int .u64 0, .int .u64 0, .slice none 0 0, .string ⟨#[]⟩, .int .i64 0, .string ⟨#[]⟩]) := by rw [<- hW1]; exact (Bk.new w _ _).alloc _
     have HR1 : Hid (Rdr W1 (w.heap.size + 1) (aj 1 ++ (au (toL data) ++ []))) := by
      show Bk _ _ _ _; rw [<- HENC, hs, <- hW1]; have := Bk.new (w.alloc (.cells #[.int .i64 0, .string ⟨#[]⟩, .slice none 0 0, .int .u64 0, .int .u64 0, .slice none 0 0, .string ⟨#[]⟩, .int .i64 0, .string ⟨#[]⟩] 75)) 139 #[.string s, .bool false]
      rwa [World.size_alloc] at this
     have HB1 : Hid (Below w.heap.size w W1) := by rw [<- hW1]; exact ((Below.refl _ w).alloc ai _).alloc (by simp) _
     have zW1 : W1.heap.size = w.heap.size + 2 := by rw [<- hW1]; simp
     have HC1 := ah (fU (w.heap.size + 1) 1 (au (toL data) ++ []) W1 HR1.out (by omega) hlr); clear hs HENC hlr
     go_enter Tryz.func56, Tryz.ntmps56
     go_wp2_with fail; refine HC1.out.mono ?_; rintro e w2 ⟨rfl, hr, hg⟩; have HR2 := ah hr; have HG2 : Hid (Below w.heap.size w w2) := HB1.out.trans (hg.below (by omega) (fun q hq e => by omega)); have HZ2 := ah (hg.bk HZ1.out (by show ¬ w.heap.size = w.heap.size + 1; omega)); have z2 : w.heap.size + 2 <= w2.heap.size := by have := hg.size; omega
     clear hr hg hW1 HC1 HB1 HZ1 HR1; obtain ⟨W3, hW3⟩ : ∃ W, w2.alloc (.cells #[.int .i64 1, .string ⟨#[]⟩, .slice none 0 0, .int .u64 0, .int .u64 0, .slice none 0 0, .string ⟨#[]⟩, .int .i64 0, .string ⟨#[]⟩] 75) = W := ⟨_, rfl⟩
     have hb3 : Below w2.heap.size w2 W3 := by rw [<- hW3]; exact (Below.refl _ w2).alloc ai _
     have HY3 : Hid (Bk W3 w2.heap.size 75 #[.int .i64 1, .string ⟨#[]⟩, .slice none 0 0, .int .u64 0, .int .u64 0, .slice none 0 0, .string ⟨#[]⟩, .int .i64 0, .string ⟨#[]⟩]) := by rw [<- hW3]; exact Bk.new w2 _ _
     have HR3 : Hid (Rdr W3 (w.heap.size + 1) (au (toL data) ++ [])) := Bk.below HR2.out hb3 (by omega); have HZ3 := ah (HZ2.out.below hb3 (by omega)); have HB3 : Hid (Below w.heap.size w W3) := HG2.out.trans (hb3.mono (by omega)); have z3 : W3.heap.size = w2.heap.size + 1 := by rw [<- hW3]; simp
     have c0 := HY3.out.nine.1; rw [<- hW3] at c0; have HW3 := ah hW3; clear hb3 hW3 HR2 HZ2 HG2; have HC4 := ah (jo (w.heap.size + 1) data [] W3 HR3.out d hle); go_wp2_with fail; rw [HW3.out]; refine HC4.out.mono ?_; rintro e v4 ⟨rfl, hr, hg⟩; have HRv := ah hr; have HYv := ah (hg.bk HY3.out (by show ¬ w2.heap.size = w.heap.size + 1; omega)); have HZv := ah (hg.bk HZ3.out (by show ¬ w.heap.size = w.heap.size + 1; omega)); have HBv : Hid (Below w.heap.size w v4) := HB3.out.trans (hg.below (by have := HB3.out.size; omega) (fun q hq e => by omega)); have zs4 := hg.size; clear c0 hr hg HC4 HB3 HZ3 HY3 HR3; obtain ⟨c0, c1, c2, c3, c4, c5, c6, c7, c8⟩ := HYv.out.nine; have f1 := HYv.out.free 1; obtain ⟨W4, hW4⟩ : ∃ W, (v4.setCell ⟨w2.heap.size, 1, none⟩ (.string data)) = W := ⟨_, rfl⟩
     have HY4 : Hid (Bk W4 w2.heap.size 75 #[.int .i64 1, .string data, .slice none 0 0, .int .u64 0, .int .u64 0, .slice none 0 0, .string ⟨#[]⟩, .int .i64 0, .string ⟨#[]⟩]) := by rw [<- hW4]; have := (HYv.out.set 1 (.string data)); show Bk _ _ _ _; simpa using this
     have HR4 : Hid (Rdr W4 (w.heap.size + 1) ([])) := by rw [<- hW4]; exact (Bk.far HRv.out (p := ⟨w2.heap.size, 1, none⟩) (by show w.heap.size + 1 ≠ w2.heap.size; omega) _)
     have HZ4 : Hid (Bk W4 w.heap.size 75 #[.int .i64 0, .string ⟨#[]⟩, .slice none 0 0, .int .u64 0, .int .u64 0, .slice none 0 0, .string ⟨#[]⟩, .int .i64 0, .string ⟨#[]⟩]) := by rw [<- hW4]; exact (Bk.far HZv.out (p := ⟨w2.heap.size, 1, none⟩) (by show w.heap.size ≠ w2.heap.size; omega) _)
     have HB4 : Hid (Below w.heap.size w W4) := by rw [<- hW4]; exact (Below.setCell HBv.out (p := ⟨w2.heap.size, 1, none⟩) (by show w.heap.size <= w2.heap.size; omega) _)
     have zz4 : v4.heap.size <= W4.heap.size := by rw [<- hW4]; simp [World.setCell]
     clear HRv HYv HZv HBv; have hRx : Bk W4 (w.heap.size + 1) 139 #[.string ⟨#[]⟩, .bool false] := HR4.out; obtain ⟨q0, q1, _, _⟩ := hRx.two; have HM4 : Hid (ObM W4 W4.heap.size ⟨1, data, [], zD, [], ⟨#[]⟩, 0, ⟨#[]⟩⟩ ⟨none, 0, 0, none, 0, 0⟩) := ⟨Sl.nil _ _ _ _, Sl.nil _ _ _ _, Nat.le_refl _, Nat.zero_le _, Nat.le_refl _, Nat.zero_le _⟩
     have HCK := ah (lh ⟨1, data, [], zD, [], ⟨#[]⟩, 0, ⟨#[]⟩⟩ ⟨none, 0, 0, none, 0, 0⟩ W4.heap.size W4 HM4.out ai HO.out); simp only [obV, obC] at HCK; obtain ⟨k0, k1, k2, k3, k4, k5, k6, k7, k8⟩ := HY4.out.nine; go_wp2_with fail; refine HCK.out.mono ?_; rintro e w8 ⟨rfl, hb8⟩; have HY8 := ah (HY4.out.below hb8 HY4.out.lt); have HZ8 := ah (HZ4.out.below hb8 HZ4.out.lt); have HB8 : Hid (Below w.heap.size w w8) := HB4.out.trans (hb8.mono HB4.out.size); have HM8 := ah ((HM4.out.below hb8 ai).more hb8.size); have z8 : w.heap.size < w8.heap.size := HZ8.out.lt; clear c0 c1 c2 c3 c4 c5 c6 c7 c8 k0 k1 k2 k3 k4 k5 k6 k7 k8 q0 q1 hRx hb8 HCK hW4; obtain ⟨c0, c1, c2, c3, c4, c5, c6, c7, c8⟩ := HY8.out.nine; obtain ⟨d0, d1, d2, d3, d4, d5, d6, d7, d8⟩ := HZ8.out.nine; obtain ⟨f0, f1, f2, f3, f4, f5, f6, f7, f8⟩ := fr9 HZ8.out; have hne : w.heap.size ≠ w2.heap.size := by omega
     go_wp2_with fail; refine bodyPost_ret (aX Tryz.results56 rfl (aQ HZ8.out _ _ _ _ _ _ _ _ _) rfl) rfl ⟨⟨none, 0, 0, none, 0, 0⟩, rfl, ?_, aP HB8.out ai _ _ _ _ _ _ _ _ _, NewO.none _ _ rfl, NewP.none _ _ rfl⟩; exact ⟨Sl.nil _ _ _ _, Sl.nil _ _ _ _, Nat.le_refl _, Nat.zero_le _, Nat.le_refl _, Nat.zero_le _⟩
   . have HENC : aB _ = aj 4 ++ (au (toL data) ++ []) := HENC
     obtain ⟨s, hs⟩ : ∃ s, ofL (aB (⟨4, data, [], zD, [], ⟨#[]⟩, 0, ⟨#[]⟩⟩ : Ob)) = s := ⟨_, rfl⟩
     rw [hs]; have hlr : (aj 4 ++ (au (toL data) ++ [])).length <= 1000000 := by rw [<- HENC]; omega
     have hle : (au (toL data) ++ []).length <= 1000000 := by rw [List.length_append] at hlr; omega
     obtain ⟨W1, hW1⟩ : ∃ W, (w.alloc (.cells #[.int .i64 0, .string ⟨#[]⟩, .slice none 0 0, .int .u64 0, .int .u64 0, .slice none 0 0, .string ⟨#[]⟩, .int .i64 0, .string ⟨#[]⟩] 75)).alloc (.cells #[.string s, .bool false] 139) = W := ⟨_, rfl⟩
     have HZ1 : Hid (Bk W1 w.heap.size 75 #[.int .i64 0, .string ⟨#[]⟩, .slice none 0 0, .int .u64 0, .int .u64 0, .slice none 0 0, .string ⟨#[]⟩, .int .i64 0, .string ⟨#[]⟩]) := by rw [<- hW1]; exact (Bk.new w _ _).alloc _
     have HR1 : Hid (Rdr W1 (w.heap.size + 1) (aj 4 ++ (au (toL data) ++ []))) := by
      show Bk _ _ _ _; rw [<- HENC, hs, <- hW1]; have := Bk.new (w.alloc (.cells #[.int .i64 0, .string ⟨#[]⟩, .slice none 0 0, .int .u64 0, .int .u64 0, .slice none 0 0, .string ⟨#[]⟩, .int .i64 0, .string ⟨#[]⟩] 75)) 139 #[.string s, .bool false]
      rwa [World.size_alloc] at this
     have HB1 : Hid (Below w.heap.size w W1) := by rw [<- hW1]; exact ((Below.refl _ w).alloc ai _).alloc (by simp) _
     have zW1 : W1.heap.size = w.heap.size + 2 := by rw [<- hW1]; simp
     have HC1 := ah (fU (w.heap.size + 1) 4 (au (toL data) ++ []) W1 HR1.out (by omega) hlr); clear hs HENC hlr
     go_enter Tryz.func56, Tryz.ntmps56
     go_wp2_with fail; refine HC1.out.mono ?_; rintro e w2 ⟨rfl, hr, hg⟩; have HR2 := ah hr; have HG2 : Hid (Below w.heap.size w w2) := HB1.out.trans (hg.below (by omega) (fun q hq e => by omega)); have HZ2 := ah (hg.bk HZ1.out (by show ¬ w.heap.size = w.heap.size + 1; omega)); have z2 : w.heap.size + 2 <= w2.heap.size := by have := hg.size; omega
     clear hr hg hW1 HC1 HB1 HZ1 HR1; obtain ⟨W3, hW3⟩ : ∃ W, w2.alloc (.cells #[.int .i64 4, .string ⟨#[]⟩, .slice none 0 0, .int .u64 0, .int .u64 0, .slice none 0 0, .string ⟨#[]⟩, .int .i64 0, .string ⟨#[]⟩] 75) = W := ⟨_, rfl⟩
     have hb3 : Below w2.heap.size w2 W3 := by rw [<- hW3]; exact (Below.refl _ w2).alloc ai _
     have HY3 : Hid (Bk W3 w2.heap.size 75 #[.int .i64 4, .string ⟨#[]⟩, .slice none 0 0, .int .u64 0, .int .u64 0, .slice none 0 0, .string ⟨#[]⟩, .int .i64 0, .string ⟨#[]⟩]) := by rw [<- hW3]; exact Bk.new w2 _ _
     have HR3 : Hid (Rdr W3 (w.heap.size + 1) (au (toL data) ++ [])) := Bk.below HR2.out hb3 (by omega); have HZ3 := ah (HZ2.out.below hb3 (by omega)); have HB3 : Hid (Below w.heap.size w W3) := HG2.out.trans (hb3.mono (by omega)); have z3 : W3.heap.size = w2.heap.size + 1 := by rw [<- hW3]; simp
     have c0 := HY3.out.nine.1; rw [<- hW3] at c0; have HW3 := ah hW3; clear hb3 hW3 HR2 HZ2 HG2; have HC4 := ah (jo (w.heap.size + 1) data [] W3 HR3.out d hle); go_wp2_with fail; rw [HW3.out]; refine HC4.out.mono ?_; rintro e v4 ⟨rfl, hr, hg⟩; have HRv := ah hr; have HYv := ah (hg.bk HY3.out (by show ¬ w2.heap.size = w.heap.size + 1; omega)); have HZv := ah (hg.bk HZ3.out (by show ¬ w.heap.size = w.heap.size + 1; omega)); have HBv : Hid (Below w.heap.size w v4) := HB3.out.trans (hg.below (by have := HB3.out.size; omega) (fun q hq e => by omega)); have zs4 := hg.size; clear c0 hr hg HC4 HB3 HZ3 HY3 HR3; obtain ⟨c0, c1, c2, c3, c4, c5, c6, c7, c8⟩ := HYv.out.nine; have f1 := HYv.out.free 1; obtain ⟨W4, hW4⟩ : ∃ W, (v4.setCell ⟨w2.heap.size, 1, none⟩ (.string data)) = W := ⟨_, rfl⟩
     have HY4 : Hid (Bk W4 w2.heap.size 75 #[.int .i64 4, .string data, .slice none 0 0, .int .u64 0, .int .u64 0, .slice none 0 0, .string ⟨#[]⟩, .int .i64 0, .string ⟨#[]⟩]) := by rw [<- hW4]; have := (HYv.out.set 1 (.string data)); show Bk _ _ _ _; simpa using this
     have HR4 : Hid (Rdr W4 (w.heap.size + 1) ([])) := by rw [<- hW4]; exact (Bk.far HRv.out (p := ⟨w2.heap.size, 1, none⟩) (by show w.heap.size + 1 ≠ w2.heap.size; omega) _)
     have HZ4 : Hid (Bk W4 w.heap.size 75 #[.int .i64 0, .string ⟨#[]⟩, .slice none 0 0, .int .u64 0, .int .u64 0, .slice none 0 0, .string ⟨#[]⟩, .int .i64 0, .string ⟨#[]⟩]) := by rw [<- hW4]; exact (Bk.far HZv.out (p := ⟨w2.heap.size, 1, none⟩) (by show w.heap.size ≠ w2.heap.size; omega) _)
     have HB4 : Hid (Below w.heap.size w W4) := by rw [<- hW4]; exact (Below.setCell HBv.out (p := ⟨w2.heap.size, 1, none⟩) (by show w.heap.size <= w2.heap.size; omega) _)
     have zz4 : v4.heap.size <= W4.heap.size := by rw [<- hW4]; simp [World.setCell]
     clear HRv HYv HZv HBv; have hRx : Bk W4 (w.heap.size + 1) 139 #[.string ⟨#[]⟩, .bool false] := HR4.out; obtain ⟨q0, q1, _, _⟩ := hRx.two; have HM4 : Hid (ObM W4 W4.heap.size ⟨4, data, [], zD, [], ⟨#[]⟩, 0, ⟨#[]⟩⟩ ⟨none, 0, 0, none, 0, 0⟩) := ⟨Sl.nil _ _ _ _, Sl.nil _ _ _ _, Nat.le_refl _, Nat.zero_le _, Nat.le_refl _, Nat.zero_le _⟩
     have HCK := ah (lh ⟨4, data, [], zD, [], ⟨#[]⟩, 0, ⟨#[]⟩⟩ ⟨none, 0, 0, none, 0, 0⟩ W4.heap.size W4 HM4.out ai HO.out); simp only [obV, obC] at HCK; obtain ⟨k0, k1, k2, k3, k4, k5, k6, k7, k8⟩ := HY4.out.nine; go_wp2_with fail; refine HCK.out.mono ?_; rintro e w8 ⟨rfl, hb8⟩; have HY8 := ah (HY4.out.below hb8 HY4.out.lt); have HZ8 := ah (HZ4.out.below hb8 HZ4.out.lt); have HB8 : Hid (Below w.heap.size w w8) := HB4.out.trans (hb8.mono HB4.out.size); have HM8 := ah ((HM4.out.below hb8 ai).more hb8.size); have z8 : w.heap.size < w8.heap.size := HZ8.out.lt; clear c0 c1 c2 c3 c4 c5 c6 c7 c8 k0 k1 k2 k3 k4 k5 k6 k7 k8 q0 q1 hRx hb8 HCK hW4; obtain ⟨c0, c1, c2, c3, c4, c5, c6, c7, c8⟩ := HY8.out.nine; obtain ⟨d0, d1, d2, d3, d4, d5, d6, d7, d8⟩ := HZ8.out.nine; obtain ⟨f0, f1, f2, f3, f4, f5, f6, f7, f8⟩ := fr9 HZ8.out; have hne : w.heap.size ≠ w2.heap.size := by omega
     go_wp2_with fail; refine bodyPost_ret (aX Tryz.results56 rfl (aQ HZ8.out _ _ _ _ _ _ _ _ _) rfl) rfl ⟨⟨none, 0, 0, none, 0, 0⟩, rfl, ?_, aP HB8.out ai _ _ _ _ _ _ _ _ _, NewO.none _ _ rfl, NewP.none _ _ rfl⟩; exact ⟨Sl.nil _ _ _ _, Sl.nil _ _ _ _, Nat.le_refl _, Nat.zero_le _, Nat.le_refl _, Nat.zero_le _⟩
 | tree k d c e =>
   have HENC : aB o = aj 2 ++ (aj o.ents.length ++ (o.ents.flatMap aH ++ [])) := by unfold aB bW; rw [if_pos k, k, List.append_nil]; rfl
   obtain ⟨h1, h2, h3, h4, h5⟩ := c; obtain ⟨kind, data, ents, tree, pars, auth, time, msg⟩ := o; simp only at k e h1 h2 h3 h4 h5 d HENC; subst k d h1 h2 h3 h4 h5; obtain ⟨s, hs⟩ : ∃ s, ofL (aB (⟨2, ⟨#[]⟩, ents, zD, [], ⟨#[]⟩, 0, ⟨#[]⟩⟩ : Ob)) = s := ⟨_, rfl⟩
   rw [hs]; have hlr : (aj 2 ++ (aj ents.length ++ (ents.flatMap aH ++ []))).length <= 1000000 := by rw [<- HENC]; omega
   have hle : (aj ents.length ++ (ents.flatMap aH ++ [])).length <= 1000000 := by rw [List.length_append] at hlr; omega
   obtain ⟨W1, hW1⟩ : ∃ W, (w.alloc (.cells #[.int .i64 0, .string ⟨#[]⟩, .slice none 0 0, .int .u64 0, .int .u64 0, .slice none 0 0, .string ⟨#[]⟩, .int .i64 0, .string ⟨#[]⟩] 75)).alloc (.cells #[.string s, .bool false] 139) = W := ⟨_, rfl⟩
   have HZ1 : Hid (Bk W1 w.heap.size 75 #[.int .i64 0, .string ⟨#[]⟩, .slice none 0 0, .int .u64 0, .int .u64 0, .slice none 0 0, .string ⟨#[]⟩, .int .i64 0, .string ⟨#[]⟩]) := by rw [<- hW1]; exact (Bk.new w _ _).alloc _
   have HR1 : Hid (Rdr W1 (w.heap.size + 1) (aj 2 ++ (aj ents.length ++ (ents.flatMap aH ++ [])))) := by
    show Bk _ _ _ _; rw [<- HENC, hs, <- hW1]; have := Bk.new (w.alloc (.cells #[.int .i64 0, .string ⟨#[]⟩, .slice none 0 0, .int .u64 0, .int .u64 0, .slice none 0 0, .string ⟨#[]⟩, .int .i64 0, .string ⟨#[]⟩] 75)) 139 #[.string s, .bool false]
    rwa [World.size_alloc] at this
   have HB1 : Hid (Below w.heap.size w W1) := by rw [<- hW1]; exact ((Below.refl _ w).alloc ai _).alloc (by simp) _
   have zW1 : W1.heap.size = w.heap.size + 2 := by rw [<- hW1]; simp
   have HC1 := ah (fU (w.heap.size + 1) 2 (aj ents.length ++ (ents.flatMap aH ++ [])) W1 HR1.out (by omega) hlr); clear hs HENC hlr
   go_enter Tryz.func56, Tryz.ntmps56
   go_wp2_with fail; refine HC1.out.mono ?_; rintro e w2 ⟨rfl, hr, hg⟩; have HR2 := ah hr; have HG2 : Hid (Below w.heap.size w w2) := HB1.out.trans (hg.below (by omega) (fun q hq e => by omega)); have HZ2 := ah (hg.bk HZ1.out (by show ¬ w.heap.size = w.heap.size + 1; omega)); have z2 : w.heap.size + 2 <= w2.heap.size := by have := hg.size; omega
   clear hr hg hW1 HC1 HB1 HZ1 HR1; obtain ⟨W3, hW3⟩ : ∃ W, w2.alloc (.cells #[.int .i64 2, .string ⟨#[]⟩, .slice none 0 0, .int .u64 0, .int .u64 0, .slice none 0 0, .string ⟨#[]⟩, .int .i64 0, .string ⟨#[]⟩] 75) = W := ⟨_, rfl⟩
   have hb3 : Below w2.heap.size w2 W3 := by rw [<- hW3]; exact (Below.refl _ w2).alloc ai _
   have HY3 : Hid (Bk W3 w2.heap.size 75 #[.int .i64 2, .string ⟨#[]⟩, .slice none 0 0, .int .u64 0, .int .u64 0, .slice none 0 0, .string ⟨#[]⟩, .int .i64 0, .string ⟨#[]⟩]) := by rw [<- hW3]; exact Bk.new w2 _ _
   have HR3 : Hid (Rdr W3 (w.heap.size + 1) (aj ents.length ++ (ents.flatMap aH ++ []))) := Bk.below HR2.out hb3 (by omega); have HZ3 := ah (HZ2.out.below hb3 (by omega)); have HB3 : Hid (Below w.heap.size w W3) := HG2.out.trans (hb3.mono (by omega)); have z3 : W3.heap.size = w2.heap.size + 1 := by rw [<- hW3]; simp
   have c0 := HY3.out.nine.1; rw [<- hW3] at c0; have HW3 := ah hW3; clear hb3 hW3 HR2 HZ2 HG2; have HC4 := ah (AL (w.heap.size + 1) ents [] W3 HR3.out e.all e.few hle); go_wp2_with fail; rw [HW3.out]; refine HC4.out.mono ?_; rintro e v4 ⟨A4, c4x, rfl, hn4, hm4, hap, hr, hg⟩; have HRv := ah hr; have HYv := ah (hg.bk HY3.out (by show ¬ w2.heap.size = w.heap.size + 1; omega)); have HZv := ah (hg.bk HZ3.out (by show ¬ w.heap.size = w.heap.size + 1; omega)); have HBv : Hid (Below w.heap.size w v4) := HB3.out.trans (hg.below (by have := HB3.out.size; omega) (fun q hq e => by omega)); have zs4 := hg.size; have HAv := ah hap; clear c0 hr hg hap HC4 HB3 HZ3 HY3 HR3; obtain ⟨c0, c1, c2, c3, c4, c5, c6, c7, c8⟩ := HYv.out.nine; have f2 := HYv.out.free 2; obtain ⟨W4, hW4⟩ : ∃ W, (v4.setCell ⟨w2.heap.size, 2, none⟩ (.slice A4 ents.length c4x)) = W := ⟨_, rfl⟩
   have HY4 : Hid (Bk W4 w2.heap.size 75 #[.int .i64 2, .string ⟨#[]⟩, .slice A4 ents.length c4x, .int .u64 0, .int .u64 0, .slice none 0 0, .string ⟨#[]⟩, .int .i64 0, .string ⟨#[]⟩]) := by rw [<- hW4]; have := (HYv.out.set 2 (.slice A4 ents.length c4x)); show Bk _ _ _ _; simpa using this
   have HR4 : Hid (Rdr W4 (w.heap.size + 1) ([])) := by rw [<- hW4]; exact (Bk.far HRv.out (p := ⟨w2.heap.size, 2, none⟩) (by show w.heap.size + 1 ≠ w2.heap.size; omega) _)
   have HZ4 : Hid (Bk W4 w.heap.size 75 #[.int .i64 0, .string ⟨#[]⟩, .slice none 0 0, .int .u64 0, .int .u64 0, .slice none 0 0, .string ⟨#[]⟩, .int .i64 0, .string ⟨#[]⟩]) := by rw [<- hW4]; exact (Bk.far HZv.out (p := ⟨w2.heap.size, 2, none⟩) (by show w.heap.size ≠ w2.heap.size; omega) _)
   have HB4 : Hid (Below w.heap.size w W4) := by rw [<- hW4]; exact (Below.setCell HBv.out (p := ⟨w2.heap.size, 2, none⟩) (by show w.heap.size <= w2.heap.size; omega) _)
   have zz4 : v4.heap.size <= W4.heap.size := by rw [<- hW4]; simp [World.setCell]
   have HA4 := ah ((Apd.setCell HAv.out (a := ⟨w2.heap.size, 2, none⟩) (by show w2.heap.size < _; omega) (.slice A4 ents.length c4x))); rw [hW4] at HA4; clear HRv HYv HZv HBv HAv; have hRx : Bk W4 (w.heap.size + 1) 139 #[.string ⟨#[]⟩, .bool false] := HR4.out; obtain ⟨q0, q1, _, _⟩ := hRx.two; have HM4 : Hid (ObM W4 W4.heap.size ⟨2, ⟨#[]⟩, ents, zD, [], ⟨#[]⟩, 0, ⟨#[]⟩⟩ ⟨A4, ents.length, c4x, none, 0, 0⟩) := ⟨HA4.out.sl, Sl.nil _ _ _ _, hn4, hm4, Nat.le_refl _, Nat.zero_le _⟩
   have HCK := ah (lh ⟨2, ⟨#[]⟩, ents, zD, [], ⟨#[]⟩, 0, ⟨#[]⟩⟩ ⟨A4, ents.length, c4x, none, 0, 0⟩ W4.heap.size W4 HM4.out ai HO.out); simp only [obV, obC] at HCK; obtain ⟨k0, k1, k2, k3, k4, k5, k6, k7, k8⟩ := HY4.out.nine; go_wp2_with fail; refine HCK.out.mono ?_; rintro e w8 ⟨rfl, hb8⟩; have HY8 := ah (HY4.out.below hb8 HY4.out.lt); have HZ8 := ah (HZ4.out.below hb8 HZ4.out.lt); have HB8 : Hid (Below w.heap.size w w8) := HB4.out.trans (hb8.mono HB4.out.size); have HM8 := ah ((HM4.out.below hb8 ai).more hb8.size); have z8 : w.heap.size < w8.heap.size := HZ8.out.lt; have HA8 := ah (HA4.out.below hb8); clear c0 c1 c2 c3 c4 c5 c6 c7 c8 k0 k1 k2 k3 k4 k5 k6 k7 k8 q0 q1 hRx hb8 HCK hW4; obtain ⟨c0, c1, c2, c3, c4, c5, c6, c7, c8⟩ := HY8.out.nine; obtain ⟨d0, d1, d2, d3, d4, d5, d6, d7, d8⟩ := HZ8.out.nine; obtain ⟨f0, f1, f2, f3, f4, f5, f6, f7, f8⟩ := fr9 HZ8.out; have hne : w.heap.size ≠ w2.heap.size := by omega
   go_wp2_with fail; refine bodyPost_ret (aX Tryz.results56 rfl (aQ HZ8.out _ _ _ _ _ _ _ _ _) rfl) rfl ⟨⟨A4, ents.length, c4x, none, 0, 0⟩, rfl, ?_, aP HB8.out ai _ _ _ _ _ _ _ _ _, (HA8.out.set9 (by omega) _ _ _ _ _ _ _ _ _).newO (by omega) ⟨rfl, rfl, rfl⟩, NewP.none _ _ rfl⟩; exact ⟨(HA8.out.set9 (by omega) _ _ _ _ _ _ _ _ _).sl, Sl.nil _ _ _ _, hn4, hm4, Nat.le_refl _, Nat.zero_le _⟩
 | commit k d e c =>
   have HENC : aB o = aj 3 ++ (ak o.tree ++ (aj o.pars.length ++ (o.pars.flatMap ak ++ (au (toL o.auth) ++ (aj o.time.toNat ++ (au (toL o.msg) ++ [])))))) := by unfold aB bW; rw [if_neg (by omega), if_pos k, k, List.append_nil]; rfl
   obtain ⟨kind, data, ents, ⟨t1, t2⟩, pars, auth, time, msg⟩ := o; simp only at k e d HENC; subst k d e; have ht0 : 0 <= time := c.t0; obtain ⟨tn, htn⟩ := Int.eq_ofNat_of_zero_le ht0; subst htn; have ht1 : (tn : Int) <= 1099511627776 := c.t1; have htn : tn <= 1099511627776 := by omega
   have hau : auth.size <= 24 := dw c.auth; have hmg : msg.size <= 200 := c.msg; have hwt : WfD (t1, t2) := c.wf; have HPS : Hid (mK pars) := c.pars; simp only [Int.toNat_natCast] at HENC; clear c ht0 ht1; obtain ⟨s, hs⟩ : ∃ s, ofL (aB (⟨3, ⟨#[]⟩, [], (t1, t2), pars, auth, (tn : Int), msg⟩ : Ob)) = s := ⟨_, rfl⟩
   rw [hs]; have hlr : (aj 3 ++ (ak (t1, t2) ++ (aj pars.length ++ (pars.flatMap ak ++ (au (toL auth) ++ (aj tn ++ (au (toL msg) ++ []))))))).length <= 1000000 := by rw [<- HENC]; omega
   have hle : (ak (t1, t2) ++ (aj pars.length ++ (pars.flatMap ak ++ (au (toL auth) ++ (aj tn ++ (au (toL msg) ++ [])))))).length <= 1000000 := by rw [List.length_append] at hlr; omega
   obtain ⟨W1, hW1⟩ : ∃ W, (w.alloc (.cells #[.int .i64 0, .string ⟨#[]⟩, .slice none 0 0, .int .u64 0, .int .u64 0, .slice none 0 0, .string ⟨#[]⟩, .int .i64 0, .string ⟨#[]⟩] 75)).alloc (.cells #[.string s, .bool false] 139) = W := ⟨_, rfl⟩
   have HZ1 : Hid (Bk W1 w.heap.size 75 #[.int .i64 0, .string ⟨#[]⟩, .slice none 0 0, .int .u64 0, .int .u64 0, .slice none 0 0, .string ⟨#[]⟩, .int .i64 0, .string ⟨#[]⟩]) := by rw [<- hW1]; exact (Bk.new w _ _).alloc _
   have HR1 : Hid (Rdr W1 (w.heap.size + 1) (aj 3 ++ (ak (t1, t2) ++ (aj pars.length ++ (pars.flatMap ak ++ (au (toL auth) ++ (aj tn ++ (au (toL msg) ++ [])))))))) := by
    show Bk _ _ _ _; rw [<- HENC, hs, <- hW1]; have := Bk.new (w.alloc (.cells #[.int .i64 0, .string ⟨#[]⟩, .slice none 0 0, .int .u64 0, .int .u64 0, .slice none 0 0, .string ⟨#[]⟩, .int .i64 0, .string ⟨#[]⟩] 75)) 139 #[.string s, .bool false]
    rwa [World.size_alloc] at this
   have HB1 : Hid (Below w.heap.size w W1) := by rw [<- hW1]; exact ((Below.refl _ w).alloc ai _).alloc (by simp) _
   have zW1 : W1.heap.size = w.heap.size + 2 := by rw [<- hW1]; simp
   have HC1 := ah (fU (w.heap.size + 1) 3 (ak (t1, t2) ++ (aj pars.length ++ (pars.flatMap ak ++ (au (toL auth) ++ (aj tn ++ (au (toL msg) ++ [])))))) W1 HR1.out (by omega) hlr); clear hs HENC hlr
   go_enter Tryz.func56, Tryz.ntmps56
   go_wp2_with fail; refine HC1.out.mono ?_; rintro e w2 ⟨rfl, hr, hg⟩; have HR2 := ah hr; have HG2 : Hid (Below w.heap.size w w2) := HB1.out.trans (hg.below (by omega) (fun q hq e => by omega)); have HZ2 := ah (hg.bk HZ1.out (by show ¬ w.heap.size = w.heap.size + 1; omega)); have z2 : w.heap.size + 2 <= w2.heap.size := by have := hg.size; omega
   clear hr hg hW1 HC1 HB1 HZ1 HR1; obtain ⟨W3, hW3⟩ : ∃ W, w2.alloc (.cells #[.int .i64 3, .string ⟨#[]⟩, .slice none 0 0, .int .u64 0, .int .u64 0, .slice none 0 0, .string ⟨#[]⟩, .int .i64 0, .string ⟨#[]⟩] 75) = W := ⟨_, rfl⟩
   have hb3 : Below w2.heap.size w2 W3 := by rw [<- hW3]; exact (Below.refl _ w2).alloc ai _
   have HY3 : Hid (Bk W3 w2.heap.size 75 #[.int .i64 3, .string ⟨#[]⟩, .slice none 0 0, .int .u64 0, .int .u64 0, .slice none 0 0, .string ⟨#[]⟩, .int .i64 0, .string ⟨#[]⟩]) := by rw [<- hW3]; exact Bk.new w2 _ _
   have HR3 : Hid (Rdr W3 (w.heap.size + 1) (ak (t1, t2) ++ (aj pars.length ++ (pars.flatMap ak ++ (au (toL auth) ++ (aj tn ++ (au (toL msg) ++ []))))))) := Bk.below HR2.out hb3 (by omega); have HZ3 := ah (HZ2.out.below hb3 (by omega)); have HB3 : Hid (Below w.heap.size w W3) := HG2.out.trans (hb3.mono (by omega)); have z3 : W3.heap.size = w2.heap.size + 1 := by rw [<- hW3]; simp
   have c0 := HY3.out.nine.1; rw [<- hW3] at c0; have HW3 := ah hW3; clear hb3 hW3 HR2 HZ2 HG2; have hl3 : (aj pars.length ++ (pars.flatMap ak ++ (au (toL auth) ++ (aj tn ++ (au (toL msg) ++ []))))).length <= 1000000 := by
    have h := hle; simp only [List.length_append] at h ⊢; omega
   have hl2 : (au (toL auth) ++ (aj tn ++ (au (toL msg) ++ []))).length <= 1000000 := by
    have h := hle; simp only [List.length_append] at h ⊢; omega
   have hl1 : (aj tn ++ (au (toL msg) ++ [])).length <= 1000000 := by
    have h := hle; simp only [List.length_append] at h ⊢; omega
   have hl0 : (au (toL msg) ++ []).length <= 1000000 := by
    have h := hle; simp only [List.length_append] at h ⊢; omega
   have HC4 := ah (nu (w.heap.size + 1) (t1, t2) (aj pars.length ++ (pars.flatMap ak ++ (au (toL auth) ++ (aj tn ++ (au (toL msg) ++ []))))) W3 HR3.out hwt hle); go_wp2_with fail; rw [HW3.out]; refine HC4.out.mono ?_; rintro e v4 ⟨rfl, hr, hg⟩; simp only [az]; have HRv := ah hr; have HYv := ah (hg.bk HY3.out (by show ¬ w2.heap.size = w.heap.size + 1; omega)); have HZv := ah (hg.bk HZ3.out (by show ¬ w.heap.size = w.heap.size + 1; omega)); have HBv : Hid (Below w.heap.size w v4) := HB3.out.trans (hg.below (by have := HB3.out.size; omega) (fun q hq e => by omega)); have zs4 := hg.size; clear c0 hr hg HC4 HB3 HZ3 HY3 HR3; obtain ⟨c0, c1, c2, c3, c4, c5, c6, c7, c8⟩ := HYv.out.nine; have f3 := HYv.out.free 3; have f4 := HYv.out.free 4; obtain ⟨W4, hW4⟩ : ∃ W, ((v4.setCell ⟨w2.heap.size, 3, none⟩ (.int .u64 t1)).setCell ⟨w2.heap.size, 4, none⟩ (.int .u64 t2)) = W := ⟨_, rfl⟩
   have HY4 : Hid (Bk W4 w2.heap.size 75 #[.int .i64 3, .string ⟨#[]⟩, .slice none 0 0, .int .u64 t1, .int .u64 t2, .slice none 0 0, .string ⟨#[]⟩, .int .i64 0, .string ⟨#[]⟩]) := by rw [<- hW4]; have := ((HYv.out.set 3 (.int .u64 t1)).set 4 (.int .u64 t2)); show Bk _ _ _ _; simpa using this
   have HR4 : Hid (Rdr W4 (w.heap.size + 1) (aj pars.length ++ (pars.flatMap ak ++ (au (toL auth) ++ (aj tn ++ (au (toL msg) ++ [])))))) := by rw [<- hW4]; exact (Bk.far (Bk.far HRv.out (p := ⟨w2.heap.size, 3, none⟩) (by show w.heap.size + 1 ≠ w2.heap.size; omega) _) (p := ⟨w2.heap.size, 4, none⟩) (by show w.heap.size + 1 ≠ w2.heap.size; omega) _)
   have HZ4 : Hid (Bk W4 w.heap.size 75 #[.int .i64 0, .string ⟨#[]⟩, .slice none 0 0, .int .u64 0, .int .u64 0, .slice none 0 0, .string ⟨#[]⟩, .int .i64 0, .string ⟨#[]⟩]) := by rw [<- hW4]; exact (Bk.far (Bk.far HZv.out (p := ⟨w2.heap.size, 3, none⟩) (by show w.heap.size ≠ w2.heap.size; omega) _) (p := ⟨w2.heap.size, 4, none⟩) (by show w.heap.size ≠ w2.heap.size; omega) _)
   have HB4 : Hid (Below w.heap.size w W4) := by rw [<- hW4]; exact (Below.setCell (Below.setCell HBv.out (p := ⟨w2.heap.size, 3, none⟩) (by show w.heap.size <= w2.heap.size; omega) _) (p := ⟨w2.heap.size, 4, none⟩) (by show w.heap.size <= w2.heap.size; omega) _)
   have zz4 : v4.heap.size <= W4.heap.size := by rw [<- hW4]; simp [World.setCell]
   clear HRv HYv HZv HBv; have HC5 := ah (Ah (w.heap.size + 1) pars (au (toL auth) ++ (aj tn ++ (au (toL msg) ++ []))) W4 HR4.out HPS.out.wf HPS.out.few hl3); go_wp2_with fail; refine HC5.out.mono ?_; rintro e v5 ⟨A5, c5x, rfl, hn5, hm5, hap, hr, hg⟩; have HRv := ah hr; have HYv := ah (hg.bk HY4.out (by show ¬ w2.heap.size = w.heap.size + 1; omega)); have HZv := ah (hg.bk HZ4.out (by show ¬ w.heap.size = w.heap.size + 1; omega)); have HBv : Hid (Below w.heap.size w v5) := HB4.out.trans (hg.below (by have := HB4.out.size; omega) (fun q hq e => by omega)); have zs5 := hg.size; have HAv := ah hap; clear hr hg hap HC5 HB4 HZ4 HY4 HR4 hW4; obtain ⟨c0, c1, c2, c3, c4, c5, c6, c7, c8⟩ := HYv.out.nine; have f5 := HYv.out.free 5; obtain ⟨W5, hW5⟩ : ∃ W, (v5.setCell ⟨w2.heap.size, 5, none⟩ (.slice A5 pars.length c5x)) = W := ⟨_, rfl⟩
   have HY5 : Hid (Bk W5 w2.heap.size 75 #[.int .i64 3, .string ⟨#[]⟩, .slice none 0 0, .int .u64 t1, .int .u64 t2, .slice A5 pars.length c5x, .string ⟨#[]⟩, .int .i64 0, .string ⟨#[]⟩]) := by rw [<- hW5]; have := (HYv.out.set 5 (.slice A5 pars.length c5x)); show Bk _ _ _ _; simpa using this
   have HR5 : Hid (Rdr W5 (w.heap.size + 1) (au (toL auth) ++ (aj tn ++ (au (toL msg) ++ [])))) := by rw [<- hW5]; exact (Bk.far HRv.out (p := ⟨w2.heap.size, 5, none⟩) (by show w.heap.size + 1 ≠ w2.heap.size; omega) _)
   have HZ5 : Hid (Bk W5 w.heap.size 75 #[.int .i64 0, .string ⟨#[]⟩, .slice none 0 0, .int .u64 0, .int .u64 0, .slice none 0 0, .string ⟨#[]⟩, .int .i64 0, .string ⟨#[]⟩]) := by rw [<- hW5]; exact (Bk.far HZv.out (p := ⟨w2.heap.size, 5, none⟩) (by show w.heap.size ≠ w2.heap.size; omega) _)
   have HB5 : Hid (Below w.heap.size w W5) := by rw [<- hW5]; exact (Below.setCell HBv.out (p := ⟨w2.heap.size, 5, none⟩) (by show w.heap.size <= w2.heap.size; omega) _)
   have zz5 : v5.heap.size <= W5.heap.size := by rw [<- hW5]; simp [World.setCell]
   have HA5 := ah ((Apd.setCell HAv.out (a := ⟨w2.heap.size, 5, none⟩) (by show w2.heap.size < _; omega) (.slice A5 pars.length c5x))); rw [hW5] at HA5; clear HRv HYv HZv HBv HAv; have HC6 := ah (jo (w.heap.size + 1) auth (aj tn ++ (au (toL msg) ++ [])) W5 HR5.out (by omega) hl2); go_wp2_with fail; refine HC6.out.mono ?_; rintro e v6 ⟨rfl, hr, hg⟩; have HRv := ah hr; have HYv := ah (hg.bk HY5.out (by show ¬ w2.heap.size = w.heap.size + 1; omega)); have HZv := ah (hg.bk HZ5.out (by show ¬ w.heap.size = w.heap.size + 1; omega)); have HBv : Hid (Below w.heap.size w v6) := HB5.out.trans (hg.below (by have := HB5.out.size; omega) (fun q hq e => by omega)); have zs6 := hg.size; have HAv := ah (HA5.out.gb hg (by omega)); clear hr hg HC6 HB5 HZ5 HY5 HR5 hW5; obtain ⟨c0, c1, c2, c3, c4, c5, c6, c7, c8⟩ := HYv.out.nine; have f6 := HYv.out.free 6; obtain ⟨W6, hW6⟩ : ∃ W, (v6.setCell ⟨w2.heap.size, 6, none⟩ (.string auth)) = W := ⟨_, rfl⟩
   have HY6 : Hid (Bk W6 w2.heap.size 75 #[.int .i64 3, .string ⟨#[]⟩, .slice none 0 0, .int .u64 t1, .int .u64 t2, .slice A5 pars.length c5x, .string auth, .int .i64 0, .string ⟨#[]⟩]) := by rw [<- hW6]; have := (HYv.out.set 6 (.string auth)); show Bk _ _ _ _; simpa using this
   have HR6 : Hid (Rdr W6 (w.heap.size + 1) (aj tn ++ (au (toL msg) ++ []))) := by rw [<- hW6]; exact (Bk.far HRv.out (p := ⟨w2.heap.size, 6, none⟩) (by show w.heap.size + 1 ≠ w2.heap.size; omega) _)
   have HZ6 : Hid (Bk W6 w.heap.size 75 #[.int .i64 0, .string ⟨#[]⟩, .slice none 0 0, .int .u64 0, .int .u64 0, .slice none 0 0, .string ⟨#[]⟩, .int .i64 0, .string ⟨#[]⟩]) := by rw [<- hW6]; exact (Bk.far HZv.out (p := ⟨w2.heap.size, 6, none⟩) (by show w.heap.size ≠ w2.heap.size; omega) _)
   have HB6 : Hid (Below w.heap.size w W6) := by rw [<- hW6]; exact (Below.setCell HBv.out (p := ⟨w2.heap.size, 6, none⟩) (by show w.heap.size <= w2.heap.size; omega) _)
   have zz6 : v6.heap.size <= W6.heap.size := by rw [<- hW6]; simp [World.setCell]
   have HA6 := ah ((Apd.setCell HAv.out (a := ⟨w2.heap.size, 6, none⟩) (by show w2.heap.size < _; omega) (.string auth))); rw [hW6] at HA6; clear HRv HYv HZv HBv HAv; have HC7 := ah (fU (w.heap.size + 1) tn (au (toL msg) ++ []) W6 HR6.out htn hl1); go_wp2_with fail; refine HC7.out.mono ?_; rintro e v7 ⟨rfl, hr, hg⟩; have HRv := ah hr; have HYv := ah (hg.bk HY6.out (by show ¬ w2.heap.size = w.heap.size + 1; omega)); have HZv := ah (hg.bk HZ6.out (by show ¬ w.heap.size = w.heap.size + 1; omega)); have HBv : Hid (Below w.heap.size w v7) := HB6.out.trans (hg.below (by have := HB6.out.size; omega) (fun q hq e => by omega)); have zs7 := hg.size; have HAv := ah (HA6.out.gb hg (by omega)); clear hr hg HC7 HB6 HZ6 HY6 HR6 hW6; obtain ⟨c0, c1, c2, c3, c4, c5, c6, c7, c8⟩ := HYv.out.nine; have f7 := HYv.out.free 7; obtain ⟨W7, hW7⟩ : ∃ W, (v7.setCell ⟨w2.heap.size, 7, none⟩ (.int .i64 (tn : Int))) = W := ⟨_, rfl⟩
   have HY7 : Hid (Bk W7 w2.heap.size 75 #[.int .i64 3, .string ⟨#[]⟩, .slice none 0 0, .int .u64 t1, .int .u64 t2, .slice A5 pars.length c5x, .string auth, .int .i64 (tn : Int), .string ⟨#[]⟩]) := by rw [<- hW7]; have := (HYv.out.set 7 (.int .i64 (tn : Int))); show Bk _ _ _ _; simpa using this
   have HR7 : Hid (Rdr W7 (w.heap.size + 1) (au (toL msg) ++ [])) := by rw [<- hW7]; exact (Bk.far HRv.out (p := ⟨w2.heap.size, 7, none⟩) (by show w.heap.size + 1 ≠ w2.heap.size; omega) _)
   have HZ7 : Hid (Bk W7 w.heap.size 75 #[.int .i64 0, .string ⟨#[]⟩, .slice none 0 0, .int .u64 0, .int .u64 0, .slice none 0 0, .string ⟨#[]⟩, .int .i64 0, .string ⟨#[]⟩]) := by rw [<- hW7]; exact (Bk.far HZv.out (p := ⟨w2.heap.size, 7, none⟩) (by show w.heap.size ≠ w2.heap.size; omega) _)
   have HB7 : Hid (Below w.heap.size w W7) := by rw [<- hW7]; exact (Below.setCell HBv.out (p := ⟨w2.heap.size, 7, none⟩) (by show w.heap.size <= w2.heap.size; omega) _)
   have zz7 : v7.heap.size <= W7.heap.size := by rw [<- hW7]; simp [World.setCell]
   have HA7 := ah ((Apd.setCell HAv.out (a := ⟨w2.heap.size, 7, none⟩) (by show w2.heap.size < _; omega) (.int .i64 (tn : Int)))); rw [hW7] at HA7; clear HRv HYv HZv HBv HAv; have HC9 := ah (jo (w.heap.size + 1) msg [] W7 HR7.out (by omega) hl0); go_wp2_with fail; refine HC9.out.mono ?_; rintro e v9 ⟨rfl, hr, hg⟩; have HRv := ah hr; have HYv := ah (hg.bk HY7.out (by show ¬ w2.heap.size = w.heap.size + 1; omega)); have HZv := ah (hg.bk HZ7.out (by show ¬ w.heap.size = w.heap.size + 1; omega)); have HBv : Hid (Below w.heap.size w v9) := HB7.out.trans (hg.below (by have := HB7.out.size; omega) (fun q hq e => by omega)); have zs9 := hg.size; have HAv := ah (HA7.out.gb hg (by omega)); clear hr hg HC9 HB7 HZ7 HY7 HR7 hW7; obtain ⟨c0, c1, c2, c3, c4, c5, c6, c7, c8⟩ := HYv.out.nine; have f8 := HYv.out.free 8; obtain ⟨W9, hW9⟩ : ∃ W, (v9.setCell ⟨w2.heap.size, 8, none⟩ (.string msg)) = W := ⟨_, rfl⟩
   have HY9 : Hid (Bk W9 w2.heap.size 75 #[.int .i64 3, .string ⟨#[]⟩, .slice none 0 0, .int .u64 t1, .int .u64 t2, .slice A5 pars.length c5x, .string auth, .int .i64 (tn : Int), .string msg]) := by rw [<- hW9]; have := (HYv.out.set 8 (.string msg)); show Bk _ _ _ _; simpa using this
   have HR9 : Hid (Rdr W9 (w.heap.size + 1) ([])) := by rw [<- hW9]; exact (Bk.far HRv.out (p := ⟨w2.heap.size, 8, none⟩) (by show w.heap.size + 1 ≠ w2.heap.size; omega) _)
   have HZ9 : Hid (Bk W9 w.heap.size 75 #[.int .i64 0, .string ⟨#[]⟩, .slice none 0 0, .int .u64 0, .int .u64 0, .slice none 0 0, .string ⟨#[]⟩, .int .i64 0, .string ⟨#[]⟩]) := by rw [<- hW9]; exact (Bk.far HZv.out (p := ⟨w2.heap.size, 8, none⟩) (by show w.heap.size ≠ w2.heap.size; omega) _)
   have HB9 : Hid (Below w.heap.size w W9) := by rw [<- hW9]; exact (Below.setCell HBv.out (p := ⟨w2.heap.size, 8, none⟩) (by show w.heap.size <= w2.heap.size; omega) _)
   have zz9 : v9.heap.size <= W9.heap.size := by rw [<- hW9]; simp [World.setCell]
   have HA9 := ah ((Apd.setCell HAv.out (a := ⟨w2.heap.size, 8, none⟩) (by show w2.heap.size < _; omega) (.string msg))); rw [hW9] at HA9; clear HRv HYv HZv HBv HAv; have hRx : Bk W9 (w.heap.size + 1) 139 #[.string ⟨#[]⟩, .bool false] := HR9.out; obtain ⟨q0, q1, _, _⟩ := hRx.two; have HM9 : Hid (ObM W9 W9.heap.size ⟨3, ⟨#[]⟩, [], (t1, t2), pars, auth, (tn : Int), msg⟩ ⟨none, 0, 0, A5, pars.length, c5x⟩) := ⟨Sl.nil _ _ _ _, HA9.out.sl, Nat.le_refl _, Nat.zero_le _, hn5, hm5⟩
   have HCK := ah (lh ⟨3, ⟨#[]⟩, [], (t1, t2), pars, auth, (tn : Int), msg⟩ ⟨none, 0, 0, A5, pars.length, c5x⟩ W9.heap.size W9 HM9.out ai HO.out); simp only [obV, obC] at HCK; obtain ⟨k0, k1, k2, k3, k4, k5, k6, k7, k8⟩ := HY9.out.nine; go_wp2_with fail; refine HCK.out.mono ?_; rintro e w8 ⟨rfl, hb8⟩; have HY8 := ah (HY9.out.below hb8 HY9.out.lt); have HZ8 := ah (HZ9.out.below hb8 HZ9.out.lt); have HB8 : Hid (Below w.heap.size w w8) := HB9.out.trans (hb8.mono HB9.out.size); have HM8 := ah ((HM9.out.below hb8 ai).more hb8.size); have z8 : w.heap.size < w8.heap.size := HZ8.out.lt; have HA8 := ah (HA9.out.below hb8); clear c0 c1 c2 c3 c4 c5 c6 c7 c8 k0 k1 k2 k3 k4 k5 k6 k7 k8 q0 q1 hRx hb8 HCK hW9; obtain ⟨c0, c1, c2, c3, c4, c5, c6, c7, c8⟩ := HY8.out.nine; obtain ⟨d0, d1, d2, d3, d4, d5, d6, d7, d8⟩ := HZ8.out.nine; obtain ⟨f0, f1, f2, f3, f4, f5, f6, f7, f8⟩ := fr9 HZ8.out; have hne : w.heap.size ≠ w2.heap.size := by omega
   go_wp2_with fail; refine bodyPost_ret (aX Tryz.results56 rfl (aQ HZ8.out _ _ _ _ _ _ _ _ _) rfl) rfl ⟨⟨none, 0, 0, A5, pars.length, c5x⟩, rfl, ?_, aP HB8.out ai _ _ _ _ _ _ _ _ _, NewO.none _ _ rfl, (HA8.out.set9 (by omega) _ _ _ _ _ _ _ _ _).newP (by omega) ⟨rfl, rfl, rfl⟩⟩; exact ⟨Sl.nil _ _ _ _, (HA8.out.set9 (by omega) _ _ _ _ _ _ _ _ _).sl, Nat.le_refl _, Nat.zero_le _, hn5, hm5⟩
theorem iT (b : Nat) (w : World) (y0 y1 y2 y3 y4 y5 y6 y7 y8 : Value) (k : Nat) (hk : k ≠ b) : ((((((((((w.setCell ⟨b, 0, none⟩ y0).setCell ⟨b, 1, none⟩ y1).setCell ⟨b, 2, none⟩ y2).setCell ⟨b, 3, none⟩ y3).setCell ⟨b, 4, none⟩ y4).setCell ⟨b, 5, none⟩ y5).setCell ⟨b, 6, none⟩ y6).setCell ⟨b, 7, none⟩ y7).setCell ⟨b, 8, none⟩ y8)).heap[k]? = w.heap[k]? := by
 have h := fun (W : World) (i : Nat) (y : Value) => Below.heap_setCell W ⟨b, i, none⟩ y k hk; rw [h, h, h, h, h, h, h, h, h]
theorem Sl.ne {w w' : World} {B size n b : Nat} {A : OA} {xs : List Value} (h : Sl w B size A n xs) (hn : ∀ a, 0 < n -> A = some a -> a.block ≠ b) (hw : ∀ k, k ≠ b -> w'.heap[k]? = w.heap[k]?) : Sl w' B size A n xs := by
 refine ⟨h.1, fun h0 => ?_⟩; obtain ⟨b', off, rfl, hb', hc⟩ := h.2 h0; have hne := hn _ h0 rfl; exact ⟨b', off, rfl, hb', fun j u hu => (World.cell?_of_block (hw b' hne)).trans (hc j u hu)⟩
def zrC : Array Value := #[.int .i64 0, .string ⟨#[]⟩, .slice none 0 0, .int .u64 0, .int .u64 0, .slice none 0 0, .string ⟨#[]⟩, .int .i64 0, .string ⟨#[]⟩]
theorem vL : ∀ (i : Nat) (v : Bool), zrC[i]? ≠ some (.bool v)
 | 0, _ | 1, _ | 2, _ | 3, _ | 4, _ | 5, _ | 6, _ | 7, _ | 8, _ => by simp [zrC]
 | i + 9, _ => by simp [zrC]
theorem vT : ∀ (i : Nat) (x y : Int), zrC[i]? = some (.int .u64 x) -> zrC[i + 1]? = some (.int .u64 y) -> x = 0 /\ y = 0
 | 0, _, _ | 1, _, _ | 2, _, _ | 4, _, _ | 5, _, _ | 6, _, _ | 7, _, _ | 8, _, _ => by simp [zrC]
 | 3, _, _ => by simp [zrC]; omega
 | i + 9, _, _ => by simp [zrC]
theorem vO {o : Ob} (ho : OkO o) : ∀ d ∈ o.pars, d ≠ zD := by
 cases ho.f with
 | blob _ _ c _ => rw [c.pars]; intro d h; cases h
 | tree _ _ c _ => rw [c.pars]; intro d h; cases h
 | commit _ _ _ c => exact c.pars.nz
theorem ObM.zero {w w' : World} {B b : Nat} {t : TypeId} {o : Ob} {s : Osl} (h : ObM w B o s) (ho : OkO o) (hz : Bk w b t zrC) (hw : ∀ k, k ≠ b -> w'.heap[k]? = w.heap[k]?) : ObM w' B o s := by
 refine ⟨h.e.ne (b := b) ?_ hw, h.p.ne (b := b) ?_ hw, h.ele, h.emx, h.ple, h.pmx⟩
 . rintro a h0 ha rfl
   obtain ⟨b', off, e, rfl', _, _, _, h1, _⟩ := h.e.en h0; rw [ha] at rfl'; cases rfl'
   rw [hz.cell] at h1; exact vL _ _ h1
 . rintro a h0 ha rfl
   obtain ⟨b', off, d, rfl', _, hd, h1, h2⟩ := h.p.dg h0; rw [ha] at rfl'; cases rfl'
   rw [hz.cell] at h1 h2; have := vT _ _ _ h1 h2; exact vO ho d (List.mem_of_getElem? hd) (by obtain ⟨x, y⟩ := d; obtain ⟨h1, h2⟩ := this; simp only at h1 h2; rw [h1, h2]; rfl)
def zOb : Ob := ⟨0, ⟨#[]⟩, [], zD, [], ⟨#[]⟩, 0, ⟨#[]⟩⟩
def zOs : Osl := ⟨none, 0, 0, none, 0, 0⟩
def GeE (p : List Itm) (d : Dig) (w : World) (e : Ending) (w' : World) : Prop :=
 ((∃ o s, ay p d = some o /\ OkO o /\ e = .returned (.tuple #[obV o s, .int .i64 0]) /\ ObM w' w'.heap.size o s /\ NewO w' w.heap.size s /\ NewP w' w.heap.size s) ∨ (ay p d = none /\ e = .returned (.tuple #[obV zOb zOs, .int .i64 8]))) /\ Below w.heap.size w w'
theorem vD (A : OA) (n c B : Nat) (p : List Itm) (d : Dig) (w : World) (h0 : Sl w B 3 A n (flat itC p)) (hB : B <= w.heap.size) (hn : n <= 1000000) (hp : PlOk p) :
  Calls Tryz.prog 40 #[.slice A n c, az d] w (GeE p d w) := by
 have HP := ah hp; have HL := ah (h0.len cO (by omega)); clear hp; obtain ⟨d1, d2⟩ := d; obtain ⟨W, hW⟩ : ∃ W, (w.alloc (.cells #[.int .u64 d1, .int .u64 d2] 42)).alloc (.cells #[.int .i64 0, .string ⟨#[]⟩, .slice none 0 0, .int .u64 0, .int .u64 0, .slice none 0 0, .string ⟨#[]⟩, .int .i64 0, .string ⟨#[]⟩] 75) = W := ⟨_, rfl⟩
 have HB0 : Hid (Below w.heap.size w W) := by rw [<- hW]; exact ((Below.refl _ w).alloc ai _).alloc (by simp) _
 have HK : Hid (Bk W w.heap.size 42 #[.int .u64 d1, .int .u64 d2]) := by rw [<- hW]; exact (Bk.new w _ _).alloc _
 have HZ : Hid (Bk W (w.heap.size + 1) 75 #[.int .i64 0, .string ⟨#[]⟩, .slice none 0 0, .int .u64 0, .int .u64 0, .slice none 0 0, .string ⟨#[]⟩, .int .i64 0, .string ⟨#[]⟩]) := by
  rw [<- hW]; have := Bk.new (w.alloc (.cells #[.int .u64 d1, .int .u64 d2] 42)) 75 #[.int .i64 0, .string ⟨#[]⟩, .slice none 0 0, .int .u64 0, .int .u64 0, .slice none 0 0, .string ⟨#[]⟩, .int .i64 0, .string ⟨#[]⟩]; rw [World.size_alloc] at this; exact this
 have HC := ah (nS A n c B p (d1, d2) W (h0.below HB0.out hB) (Nat.le_trans hB HB0.out.size) hn HP.out.asc); have H0 := ah h0; clear h0; have zW : w.heap.size + 2 = W.heap.size := by rw [<- hW]; simp
 have HW := ah hW; clear hW; unfold BsE at HC; simp only [az] at HC ⊢; obtain ⟨x0, x1, _, _⟩ := HK.out.two; cases hf : bD p (d1, d2) with
 | none =>
   have HN : Hid (ay p (d1, d2) = none) := getP_none.2 hf; rw [hf] at HC; simp only [Option.isSome_none] at HC; clear hf
   go_enter Tryz.func40, Tryz.ntmps40
   go_wp2_with fail; rw [HW.out]; refine HC.out.mono ?_; rintro e w2 ⟨rfl, hb⟩; have HZ2 := ah (HZ.out.below hb (by omega)); have HB2 : Hid (Below w.heap.size w w2) := HB0.out.trans (hb.mono HB0.out.size); obtain ⟨z0, z1, z2, z3, z4, z5, z6, z7, z8⟩ := HZ2.out.nine; obtain ⟨g0, g1, g2, g3, g4, g5, g6, g7, g8⟩ := fr9 HZ2.out; clear hb HC; go_wp2_with fail; refine bodyPost_ret (aX Tryz.results40 rfl (aQ HZ2.out _ _ _ _ _ _ _ _ _) rfl) rfl ⟨.inr ⟨HN.out, rfl⟩, aP HB2.out (by omega) _ _ _ _ _ _ _ _ _⟩
 | some b =>
   have HM : Hid (((d1, d2), b) ∈ p) := (fZ HP.out.asc).1 hf; obtain ⟨o, ho, hbe⟩ := HP.out.enc _ HM.out; simp only at hbe; have HG : Hid (ay p (d1, d2) = some o) := (dR HP.out).2 ⟨ho, by rw [<- hbe]; exact HM.out⟩; have HO := ah ho; have HI : Hid (∃ i, p[atD p (d1, d2)]? = some i /\ i.2 = b /\ atD p (d1, d2) < n) := by
    unfold bD at hf; cases hi : p[atD p (d1, d2)]? with
    | none => rw [hi] at hf; cases hf
    | some i =>
      rw [hi] at hf; simp only at hf; split at hf
      . exact ⟨i, rfl, by cases hf; rfl, by rw [<- HL.out]; exact (List.getElem?_eq_some_iff.1 hi).1⟩
      . cases hf
   obtain ⟨i, hi, hib, hin⟩ := HI.out; rw [hf] at HC; simp only [Option.isSome_some] at HC; obtain ⟨m, hm⟩ : ∃ m, atD p (d1, d2) = m := ⟨_, rfl⟩
   rw [hm] at HC hi hin; clear hf ho hm
   go_enter Tryz.func40, Tryz.ntmps40
   go_wp2_with fail; rw [HW.out]; refine HC.out.mono ?_; rintro e w2 ⟨rfl, hb⟩; have HB2 : Hid (Below w.heap.size w w2) := HB0.out.trans (hb.mono HB0.out.size); have HZ2 := ah (HZ.out.below hb (by omega)); obtain ⟨bb, off, i', rfl, hbB, hx, y0, y1, y2⟩ := (H0.out.below HB2.out hB).it hin; rw [hi] at hx; obtain rfl := Option.some.inj hx; rw [hib, hbe] at y2; have HD := ah (zY o w2 HO.out); have zw2 := hb.size; clear hb HC hi hib hbe hx; have hmn : (m : Int) < (n : Int) := by omega
   go_wp2_with fail; refine HD.out.mono ?_; rintro e w3 ⟨s, rfl, hm3, hb3, hn3, hp3⟩; have HP3 : Hid (NewP w3 w.heap.size s) := hp3.mono HB2.out.size; have HN3 : Hid (NewO w3 w.heap.size s) := hn3.mono HB2.out.size; have HZ3 := ah (HZ2.out.below hb3 (by omega)); have HB3 : Hid (Below w.heap.size w w3) := HB2.out.trans (hb3.mono HB2.out.size); have HM3 := ah hm3; simp only [obV, obC]; obtain ⟨z0, z1, z2, z3, z4, z5, z6, z7, z8⟩ := HZ3.out.nine; obtain ⟨g0, g1, g2, g3, g4, g5, g6, g7, g8⟩ := fr9 HZ3.out; clear hb3 hm3 hn3 hp3 HD; go_wp2_with fail; refine bodyPost_ret (aX Tryz.results40 rfl (aQ HZ3.out _ _ _ _ _ _ _ _ _) rfl) rfl ⟨.inl ⟨o, s, HG.out, HO.out, rfl, ?_, ?_, ?_⟩, aP HB3.out (by omega) _ _ _ _ _ _ _ _ _⟩
   . have := HM3.out.zero (t := 75) HO.out HZ3.out (fun k hk => iT _ w3 (.int .i64 o.kind) (.string o.data) (.slice s.eA s.en s.ec) (.int .u64 o.tree.1) (.int .u64 o.tree.2) (.slice s.pA s.pn s.pc) (.string o.auth) (.int .i64 o.time) (.string o.msg) k hk)
     simpa using this
   . have := HN3.out.keep (t := 75) HZ3.out (by decide) (fun k hk => iT _ w3 (.int .i64 o.kind) (.string o.data) (.slice s.eA s.en s.ec) (.int .u64 o.tree.1) (.int .u64 o.tree.2) (.slice s.pA s.pn s.pc) (.string o.auth) (.int .i64 o.time) (.string o.msg) k hk)
     simpa using this
   . have := HP3.out.keep (t := 75) HZ3.out (by decide) (fun k hk => iT _ w3 (.int .i64 o.kind) (.string o.data) (.slice s.eA s.en s.ec) (.int .u64 o.tree.1) (.int .u64 o.tree.2) (.slice s.pA s.pn s.pc) (.string o.auth) (.int .i64 o.time) (.string o.msg) k hk)
     simpa using this
theorem Sl.dgbox {w : World} {B n b : Nat} {t : TypeId} {A : OA} {q : List Itm} {x y : Value} (h : Sl w B 3 A n (flat itC q)) (hk : Bk w b t #[x, y]) : ∀ a, 0 < n -> A = some a -> a.block ≠ b := by
 rintro a h0 ha rfl; obtain ⟨b', off, i, rfl', _, _, _, _, h2⟩ := h.it h0; rw [ha] at rfl'; cases rfl'
 rw [hk.cell] at h2; simp at h2
theorem fK {fn : Func} {r c i : Tmp} (h : fn.results = #[.tmp r, .cell c 42, .tmp i]) {w : World} {a : Array Value} {b : Nat} {x y u v : Value} (hr : a[r]?.getD undef = u) (ha : a[c]?.getD undef = .pointer (some ⟨b, 0, none⟩)) (hk : Bk w b 42 #[x, y]) (hv : a[i]?.getD undef = v) :
  (results fn a).run Tryz.prog w = .ok (.tuple #[u, .agg #[x, y], v]) w := by
 obtain ⟨h0, h1, _, _⟩ := hk.two; simp [results, h, hr, ha, hv, go_sem, h0, h1]
def PuE (A0 : OA) (c0 : Nat) (p : List Itm) (o : Ob) (w : World) (e : Ending) (w' : World) : Prop :=
 ((∃ q A c, bB p o = some q /\ e = .returned (.tuple #[.slice A q.length c, az (dgO o), .int .i64 0]) /\ Sl w' w'.heap.size 3 A q.length (flat itC q) /\ q.length <= c /\ c <= maxLen /\ Ply w' w.heap.size A0 c0 p A c q) ∨ (bB p o = none /\ e = .returned (.tuple #[.slice none 0 0, az zD, .int .i64 16]))) /\ Below w.heap.size w w'
theorem jI (A : OA) (n c B : Nat) (p : List Itm) (o : Ob) (s : Osl) (w : World) (h0 : Sl w B 3 A n (flat itC p)) (hm : ObM w B o s) (hB : B <= w.heap.size) (hnc : n <= c) (hcm : c <= maxLen) (hn : n <= 900000) (ha : AscI p) (ho : OkO o) :
  Calls Tryz.prog 47 #[.slice A n c, obV o s] w (PuE A c p o w) := by
 have HO := ah ho; have HAS := ah ha; have HCM := ah hcm; have HNC := ah hnc; have HNN := ah hn; obtain ⟨W, hW⟩ : ∃ W, (w.alloc (.cells (obC o s) 75)).alloc (.cells #[.int .u64 0, .int .u64 0] 42) = W := ⟨_, rfl⟩
 have HB0 : Hid (Below w.heap.size w W) := by rw [<- hW]; exact ((Below.refl _ w).alloc ai _).alloc (by simp) _
 have HK : Hid (Bk W w.heap.size 75 (obC o s)) := by rw [<- hW]; exact (Bk.new w _ _).alloc _
 have HD : Hid (Bk W (w.heap.size + 1) 42 #[.int .u64 0, .int .u64 0]) := by
  rw [<- hW]; have := Bk.new (w.alloc (.cells (obC o s) 75)) 42 #[.int .u64 0, .int .u64 0]; rw [World.size_alloc] at this; exact this
 have zW : w.heap.size + 2 = W.heap.size := by rw [<- hW]; simp
 have HE := ah (sK o s B W (hm.below HB0.out hB) (by omega) ho); have H0 := ah h0; have hsz : (ofL (aB o)).size <= maxLen := by rw [bN]; have := ho.len; unfold maxLen; omega
 have HOF := ah (fun w => Fs (ofL (aB o)) w hsz); have HDG : Hid (ofB (toL (ofL (aB o))) = dgO o) := by show _ = _; rw [eD]; rfl
 unfold jc at HOF; rw [HDG.out] at HOF; have HPP : Hid (bB p o = bE p (dgO o, ofL (aB o))) := rfl; unfold qo at HE; simp only [obV, obC] at HE hW HK ⊢; obtain ⟨sb, hsb⟩ : ∃ sb, ofL (aB o) = sb := ⟨_, rfl⟩
 rw [hsb] at HE HOF HPP; obtain ⟨⟨d1, d2⟩, hdd⟩ : ∃ d, dgO o = d := ⟨_, rfl⟩
 unfold PuE; rw [hdd] at HOF HPP ⊢; rw [HPP.out]; simp only [az] at HOF ⊢; obtain ⟨c0, c1, c2, c3, c4, c5, c6, c7, c8⟩ := HK.out.nine; have HW := ah hW; clear h0 hm ho ha hcm hn hsb hdd HDG hsz hW hnc
 go_enter Tryz.func47, Tryz.ntmps47
 go_wp2_with fail; rw [HW.out]; go_wp2_with fail; refine HE.out.mono ?_; rintro e w2 ⟨rfl, hb⟩; have HB2 : Hid (Below w.heap.size w w2) := HB0.out.trans (hb.mono HB0.out.size); have HD2 := ah (HD.out.below hb (by omega)); have z2 : w.heap.size + 2 <= w2.heap.size := by have := hb.size; omega
 clear hb HE c0 c1 c2 c3 c4 c5 c6 c7 c8; go_wp2_with fail; refine (HOF.out _).mono ?_; rintro e w3 ⟨rfl, hb⟩; have HB3 : Hid (Below w.heap.size w w3) := HB2.out.trans (hb.mono HB2.out.size); have HD3 := ah (HD2.out.below hb (by omega)); have z3 : w.heap.size + 2 <= w3.heap.size := by have := hb.size; omega
 obtain ⟨W3, hW3⟩ : ∃ W, w3.alloc (.cells #[.int .u64 d1, .int .u64 d2] 42) = W := ⟨_, rfl⟩
 have HBW : Hid (Below w3.heap.size w3 W3) := by rw [<- hW3]; exact (Below.refl _ w3).alloc ai _
 have HG3 : Hid (Bk W3 w3.heap.size 42 #[.int .u64 d1, .int .u64 d2]) := by rw [<- hW3]; exact Bk.new w3 _ _
 have HD3' := ah (HD3.out.below HBW.out (by omega)); have HB3' : Hid (Below w.heap.size w W3) := HB3.out.trans (HBW.out.mono HB3.out.size); have zW3 : w3.heap.size < W3.heap.size := HG3.out.lt; have HI := ah (zV A n c B p ((d1, d2), sb) W3 (H0.out.below HB3'.out hB) (by omega) HNC.out HCM.out HNN.out HAS.out); unfold ym at HI; simp only [itV] at HI; obtain ⟨x0, x1, _, _⟩ := HG3.out.two; clear hb; go_wp2_with fail; refine HI.out.mono ?_; rintro e w4 ⟨hq, hb⟩; have HB4 : Hid (Below w.heap.size w w4) := HB3'.out.trans (hb.mono HB3'.out.size); have HD4 := ah (HD3'.out.below hb (by omega)); have HG4 := ah (HG3.out.below hb zW3); have z4 : w3.heap.size < w4.heap.size := Nat.lt_of_lt_of_le zW3 hb.size; have g0 := HD4.out.free 0; have g1 := HD4.out.free 1; obtain ⟨y0, y1, _, _⟩ := HD4.out.two; obtain ⟨x0, x1, _, _⟩ := HG4.out.two; clear hb HI hW3; rcases hq with ⟨q, A', c', h1, rfl, h2, h3, h4, h5⟩ | ⟨h1, rfl⟩
 . have HQ := ah h1; have HS := ah h2; have H3 := ah h3; have H4 := ah h4; have H5 := ah h5
   clear h1 h2 h3 h4 h5; go_wp2_with fail
   go_region
   go_wp2_with fail; refine bodyPost_ret (fK Tryz.results47 rfl rfl ((HD4.out.set2 (.int .u64 d1) (.int .u64 d2)).drew) rfl) rfl ⟨.inl ⟨q, A', c', HQ.out, rfl, ?_, H3.out, H4.out, ?_⟩, (di HB4.out (by omega) _ _).drew⟩
   . have := HS.out.ne (b := w.heap.size + 1) (HS.out.dgbox HD4.out) (fun k hk => (Below.heap_setCell (w4.setCell ⟨w.heap.size + 1, 0, none⟩ (.int .u64 d1)) ⟨w.heap.size + 1, 1, none⟩ (.int .u64 d2) k hk).trans (Below.heap_setCell w4 ⟨w.heap.size + 1, 0, none⟩ (.int .u64 d1) k hk))
     simpa using this.drew
   . rcases H5.out with h | h
     . exact .inl h
     . exact .inr (kK (kK (fF h (by omega)) HD4.out (by decide) 0 _) (HD4.out.set 0 _) (by decide) 1 _).drew
 . have HQ := ah h1
   clear h1; go_wp2_with fail; refine bodyPost_ret (fK Tryz.results47 rfl rfl (HD4.out.set2 _ _) rfl) rfl ⟨.inr ⟨HQ.out, rfl⟩, di HB4.out (by omega) _ _⟩
section
open Go.Maps
theorem Dy : (Tryz.prog.info? 94).map (fun i => (i.zero, i.size, i.bytes)) = some (some (.agg #[.string ⟨#[]⟩, .string ⟨#[]⟩]), 2, 32) := by kernel_rfl
theorem Ck (s : ByteArray) : (Value.agg (dN s)) = obV (bP s) zOs := rfl
theorem CL (w : World) (B : Nat) (s : ByteArray) : ObM w B (bP s) zOs := ⟨Sl.nil _ _ _ _, Sl.nil _ _ _ _, Nat.le_refl _, Nat.zero_le _, Nat.le_refl _, Nat.zero_le _⟩
theorem Cy (w : World) (x y : ByteArray) : ∀ j u, [Value.string x, .string y][j]? = some u -> (w.alloc (.cells #[.string x, .string y] 94)).cell? (Addr.add ⟨w.heap.size, 0, none⟩ j) = some u := by
 intro j u hj; have hb : Bk (w.alloc (.cells #[.string x, .string y] 94)) w.heap.size 94 #[.string x, .string y] := Bk.new w _ _; rw [Addr.add_lit, hb.cell]; rcases j with _ | _ | j
 . simpa using hj
 . simpa using hj
 . simp at hj
theorem E8 {l : List Fl} (h : (l.map Prod.fst).Nodup) {k : Nat} {f : Fl} (hf : l[k]? = some f) : f.1 ∉ (l.take k).map Prod.fst := by
 intro hm; rw [List.map_take] at hm; obtain ⟨i, hi, e⟩ := List.getElem_of_mem hm; rw [List.length_take] at hi; rw [List.getElem_take] at e; obtain ⟨h1, h2⟩ := List.getElem?_eq_some_iff.1 hf; have h3 : (l.map Prod.fst)[k]'(by simpa using h1) = f.1 := by rw [List.getElem_map, h2]
 exact List.pairwise_iff_getElem.1 h i k (by omega) (by simpa using h1) (by omega) (e.trans h3.symm)
section
variable {w w' : World} {base : Nat} {A0 A A' : OA} {c0 c c' : Nat} {p q q' : List Itm}
theorem Ply.below (h : Ply w base A0 c0 p A c q) (hb : Below w.heap.size w w') : Ply w' base A0 c0 p A c q := by
 rcases h with h | h
 . exact .inl h
 . exact .inr (fE h hb)
theorem Ply.box (h : Ply w base A0 c0 p A c q) {b : Nat} {t : TypeId} {cs : Array Value} (hb : Bk w b t cs) (hne : 44 ≠ t) (i : Nat) (x : Value) : Ply (w.setCell ⟨b, i, none⟩ x) base A0 c0 p A c q := by
 rcases h with h | h
 . exact .inl h
 . exact .inr (kK h hb hne i x)
theorem Ply.others (h : Ply w base A0 c0 p A c q) {e : TypeId} (ho : OthersKept e w w') (hne : 44 ≠ e) : Ply w' base A0 c0 p A c q := by
 rcases h with h | h
 . exact .inl h
 . exact .inr (ho _ _ _ _ _ _ hne h)
theorem Ply.trans {n' : Nat} (h : Ply w base A0 c0 p A c q) (hb : Below w.heap.size w w') (k : Ply w' n' A c q A' c' q') (hn : base <= n') : Ply w' base A0 c0 p A' c' q' := by
 rcases k with ⟨rfl, rfl, rfl⟩ | k
 . exact h.below hb
 . exact .inr (fF k hn)
theorem Ply.sl {B : Nat} (h : Ply w base A0 c0 p A c q) (h0 : Sl w B 3 A0 p.length (flat itC p)) (hB : B <= w.heap.size) : Sl w w.heap.size 3 A q.length (flat itC q) := by
 rcases h with ⟨rfl, _, rfl⟩ | h
 . exact h0.more hB
 . exact Sl.of_own h
end
def qP (k : Nat) (l : List Fl) (A0 : OA) (c0 : Nat) (p : List Itm) (w : World) (e : Ending) (w' : World) : Prop :=
 ((∃ q d A c, sto k p l = some (q, d) /\ kr p q d l /\ e = .returned (.tuple #[.slice A q.length c, az d, .int .i64 0]) /\ Sl w' w'.heap.size 3 A q.length (flat itC q) /\ q.length <= c /\ c <= maxLen /\ Ply w' w.heap.size A0 c0 p A c q) ∨ (sto k p l = none /\ e = .returned (.tuple #[.slice none 0 0, az zD, .int .i64 16]))) /\ Below w.heap.size w w'
def qR (k : Nat) : Prop := ∀ (l : List Fl), OkL l -> (∀ f ∈ l, f.1.size <= k) -> ∀ (p : List Itm) (A : OA) (n c : Nat) (A1 : OA) (m c1 B : Nat) (w : World),
  Sl w B 3 A n (flat itC p) -> Sl w B 2 A1 m (flat flC l) -> B <= w.heap.size -> n <= c -> c <= maxLen -> PlOk p -> n + wt l <= 800000 ->
  Calls Tryz.prog 70 #[.slice A n c, .slice A1 m c1] w (qP (k + 1) l A c p w)
theorem tO (k : Nat) (ih : ∀ k', k = k' + 1 -> qR k') : qR k := by
 intro l hl hlk p A n c A1 m c1 B w hp0 hl0 hB hnc hcm hpo hsz; have HPL := ah (hp0.len cO (by omega)); have HLL := ah (hl0.len pO (by omega)); have HP0 := ah hp0; have HL0 := ah hl0; have HOL := ah hl; have HLK := ah hlk; have HNC := ah hnc; have HCM := ah hcm; have HPO := ah hpo; have HSZ := ah hsz; have IH := ah ih; have HPQ : Hid (∀ (W : World) (Ax : OA) (cx : Nat) (qx : List Itm), Ply W w.heap.size A c p Ax cx qx -> Below w.heap.size w W -> Sl W W.heap.size 3 Ax qx.length (flat itC qx)) := fun W Ax cx qx h hb => by
  have h1 := HP0.out; rw [<- HPL.out] at h1; exact h.sl (h1.below hb hB) (by have := hb.size; omega)
 have hm2 : m <= 200 := by rw [<- HLL.out]; exact hl.few
 clear hp0 hl0 hl hlk hnc hcm hpo hsz ih; have hmm := @run_makeMap Tryz.prog; obtain ⟨W0, hW0⟩ : ∃ W, ((w.alloc (.cells #[.int .u64 0, .int .u64 0] 42)).alloc (.map #[] 0)).alloc (.map #[] 0) = W := ⟨_, rfl⟩
 have HD0 : Hid (Bk W0 w.heap.size 42 #[.int .u64 0, .int .u64 0]) := by rw [<- hW0]; exact ((Bk.new w _ _).alloc _).alloc _
 have HM0 : Hid (StM W0 (w.heap.size + 1) (w.heap.size + 2) (w.heap.size + 3) 0 (fun _ => none) (fun _ => none) (l.take 0)) := by
  show StM _ _ _ _ _ _ _ []; rw [<- hW0]; have := StM.start (w.alloc (.cells #[.int .u64 0, .int .u64 0] 42)) (w.heap.size + 3); rw [World.size_alloc] at this; exact this
 have HB0 : Hid (Below w.heap.size w W0) := by rw [<- hW0]; exact (((Below.refl _ w).alloc ai _).alloc (by simp) _).alloc (by simp; omega) _
 have zW0 : w.heap.size + 3 = W0.heap.size := by rw [<- hW0]; simp
 have HW0 := ah hW0; clear hW0
 go_enter Tryz.func70, Tryz.ntmps70
 go_wp2_with fail; rw [HW0.out]; go_wp2_with fail
 go_loopw [26] (fun i wr => ∃ (j : Nat) (gb gf : ByteArray -> Option Value), j <= m /\ i = .int .i64 (j : Int) /\ Hid (StM wr (w.heap.size + 1) (w.heap.size + 2) (w.heap.size + 3) j gb gf (l.take j)) /\ Hid (Bk wr w.heap.size 42 #[.int .u64 0, .int .u64 0]) /\ Hid (Below w.heap.size w wr) /\ w.heap.size + 3 <= wr.heap.size) (fun i _ => m - (intOf i).toNat)
 case atStart => exact ⟨0, _, _, Nat.zero_le _, rfl, HM0.out, HD0.out, HB0.out, by omega⟩
 case round =>
  clear HM0 HD0 HB0 HW0; obtain ⟨j, gb, gf, hj, rfl, hS, hD, hBel, hwz⟩ := hrel; by_cases hlt : j < m
  . have hlz : (j : Int) < (m : Int) := by omega
    obtain ⟨bb, off, f, rfl, hbB, hf, y0, y1⟩ := (HL0.out.below hBel.out hB).fl hlt; have HF := ah hf; have hPT := HOL.out.path f (List.mem_of_getElem? hf); have hfs : f.1.size <= 100 := kX hPT; have hns := (oP (nO hPT)).2; have HND := ah (E8 HOL.out.nod hf); have HTK := ah (bA hf); clear hf hPT; obtain ⟨fp, fd⟩ := f; simp only at y0 y1 hfs hns; obtain ⟨W1, hW1⟩ : ∃ W, wr.alloc (.cells #[.string fp, .string fd] 94) = W := ⟨_, rfl⟩
    have HK1 : Hid (Bk W1 wr.heap.size 94 #[.string fp, .string fd]) := by rw [<- hW1]; exact Bk.new wr _ _
    have HB1 : Hid (Below wr.heap.size wr W1) := by rw [<- hW1]; exact (Below.refl _ wr).alloc ai _
    have HC := ah (Ew fp W1 (by unfold maxLen; omega)); have zW1 : wr.heap.size < W1.heap.size := HK1.out.lt; obtain ⟨x0, x1, _, _⟩ := HK1.out.two; go_wp2_with fail; refine HC.out.mono ?_; rintro e w2 ⟨a, b, mo, rfl, hcr, hb2⟩; obtain ⟨ha, hbq, hmo⟩ := Eb hcr; have HA := ah ha; have HBQ := ah hbq; rw [<- ha] at hns; have HK2 := ah (HK1.out.below hb2 zW1); have HB2 : Hid (Below wr.heap.size wr w2) := HB1.out.trans (hb2.mono HB1.out.size); have HS2 := ah (hS.out.below HB2.out); have HD2 := ah (hD.out.below HB2.out (by omega)); have HBw : Hid (Below w.heap.size w w2) := hBel.out.trans (HB2.out.mono (by omega)); have zw2 : wr.heap.size < w2.heap.size := Nat.lt_of_lt_of_le zW1 hb2.size; obtain ⟨x0, x1, _, _⟩ := HK2.out.two; clear hcr ha hbq hb2 HC hW1 HK1 HB1 hS hD; cases mo with
    | false =>
      have HDN : Hid (deN fp = false) := hmo.symm; have HAF : Hid (a = fp) := by show _ = _; rw [HA.out, iL HDN.out]
      have hsm : a.size <= maxLen := by unfold maxLen; omega
      clear hmo
      go_wp2_with (at_mapUpdate; refine aI ?_)
      refine aC ?_; refine kC rfl _ _ _ 166 rfl 9 94 Tryz.underlying9 Tryz.underlying166 (w.heap.size + 2) j gf rfl HS2.out.f (by unfold maxLen; omega) a hsm _ rfl rfl ?_; intro w3 hM3 hg3; rw [HAF.out] at hM3; have HS3 : Hid (StM w3 (w.heap.size + 1) (w.heap.size + 2) (w.heap.size + 3) (j + 1) gb (upd gf fp (jb (fp, fd))) (l.take j ++ [(fp, fd)])) := HS2.out.file (f := (fp, fd)) (by omega) (by omega) HDN.out HND.out hM3 hg3; have HD3 := ah (HD2.out.grown hg3 (fun e => by have := Option.some.inj e; omega)); have HB3 : Hid (Below w.heap.size w w3) := HBw.out.grown hg3 (by omega) (fun k e => by cases e; omega); have z3 := hg3.size; clear hM3 hg3 HS2 HD2; go_wp2_with fail; go_roundw
      case rel => exact ⟨j + 1, gb, _, hlt, by go_num, by rw [HTK.out]; exact HS3.out, HD3.out, HB3.out, by omega⟩
      case measure => simp [intOf]; omega
    | true =>
      have HDN : Hid (deN fp = true) := hmo.symm; have hsm : a.size <= maxLen := by unfold maxLen; omega
      clear hmo; have hlk : (Instr.lookup 165 (.map (some (w.heap.size + 1))) (.string a) false).run Tryz.prog w2 = .ok ((gb a).getD eX) w2 := HS2.out.b.look Tryz.underlying9 Tryz.underlying165 (Tryz.zeroValue95 _) hsm; obtain ⟨i0, hi, hz0, hz1, hz2⟩ := info_parts Dy; have Hi := ah hi; have Hz0 := ah hz0; have Hz1 := ah hz1; have Hz2 := ah hz2; clear hi hz0 hz1 hz2; have HIL : Hid ((inD (l.take j) a).length <= 200) := by have := wK (l.take j) a; have h2 := HOL.out.few; rw [List.length_take] at this; show _ <= _; omega
      go_wp2_with (at_builtin; refine aI ?_)
      refine aC ?_; refine wpList_append_lies _ rfl (.tmp 42) (.tmp 47) 95 rfl (w.heap.size + 3) 94 i0 _ 2 32 Tryz.underlying95 Hi.out Hz0.out Hz1.out Hz2.out rfl (by decide) ((gb a).getD eX) (inD (l.take j) a).length (flat flC (inD (l.take j) a)) rfl ?own _ 1 _ [.string b, .string fd] rfl rfl ?nw (by simp [Value.oneCell']) (by decide) ?l1 ?l2 ?l3 _ rfl ?_
      case own => exact (HS2.out.alloc _).rows.own a
      case nw => exact Cy w2 b fd
      case l1 => have := HIL.out; unfold maxLen; omega
      case l2 => have := HIL.out; omega
      case l3 => simp; omega
      intro g cap w4 ho hg hat hgl; have HO := ah ho; have HG := ah hg; have HAT := ah hat
      have hrow : Hid (∀ k, ((gb a).getD eX).ownBlock = some k -> w.heap.size + 3 <= k) := fun k e => ((HS2.out.rows.own a).lt k e).1; have hz4 := hg.size; rw [World.size_alloc] at hz4; clear ho hg hat hgl hlk
      go_wp2_with (at_mapUpdate; refine aI ?_)
      refine aC ?_; refine kC rfl _ _ _ 165 rfl 9 95 Tryz.underlying9 Tryz.underlying165 (w.heap.size + 1) j gb rfl ((HS2.out.alloc _).b.kept HG.out (fun e => by have := hrow.out _ e.symm; omega)) (by unfold maxLen; omega) a hsm _ rfl rfl ?_; intro w5 hM5 hg5; have HS5 : Hid (StM w5 (w.heap.size + 1) (w.heap.size + 2) (w.heap.size + 3) (j + 1) (upd gb (fsN fp) (.slice (some ⟨g, 0, none⟩) ((inD (l.take j) (fsN fp)).length + 1) cap)) gf (l.take j ++ [(fp, fd)])) := by
       have h1 := HO.out; have h2 := HG.out; have h3 := HAT.out; have h4 : Rm w5 Tryz.prog 9 (w.heap.size + 1) (j + 1) (upd gb a (.slice (some ⟨g, 0, none⟩) ((inD (l.take j) a).length + 1) cap)) := hM5; rw [HA.out] at h1 h2 h3 h4; rw [HBQ.out] at h1; exact (HS2.out.alloc _).dir (f := (fp, fd)) (by omega) HDN.out HND.out h1 h2 h3 h4 hg5
      have HB5 : Hid (Below w.heap.size w w5) := ((HBw.out.alloc (by omega) _).grown HG.out (by simp; omega) (fun k e => by have := hrow.out _ e; omega)).grown hg5 (by omega) (fun k e => by cases e; omega); have HD5 := ah (((HD2.out.alloc _).grown HG.out (fun e => by have := hrow.out _ e.symm; omega)).grown hg5 (fun e => by have := Option.some.inj e; omega)); have hz5 : w.heap.size + 3 <= w5.heap.size := by have := hg5.size; omega
      clear hM5 hg5 HO HG HAT HS2 HD2 hrow; go_wp2_with fail; go_roundw
      case rel => exact ⟨j + 1, _, gf, hlt, by go_num, by rw [HTK.out]; exact HS5.out, HD5.out, HB5.out, hz5⟩
      case measure => simp [intOf]; omega
  . have hlz : ¬ (j : Int) < (m : Int) := by omega
    have hjm : j = m := by omega
    have HS1 : Hid (StM wr (w.heap.size + 1) (w.heap.size + 2) (w.heap.size + 3) m gb gf l) := by
     have := hS.out; rw [hjm, List.take_of_length_le (by rw [HLL.out]; exact Nat.le_refl _)] at this; exact this
    obtain ⟨wo, hwo⟩ : ∃ wo, wo = wr := ⟨_, rfl⟩
    subst hwo; obtain ⟨W3, hW3⟩ : ∃ W, wo.alloc (.cells #[.map (some (w.heap.size + 2))] 166) = W := ⟨_, rfl⟩
    have HK3 : Hid (Bk W3 wo.heap.size 166 #[.map (some (w.heap.size + 2))]) := by rw [<- hW3]; exact Bk.new wo _ _
    have HB3 : Hid (Below wo.heap.size wo W3) := by rw [<- hW3]; exact (Below.refl _ wo).alloc ai _
    have HC3 := ah (Bp wo.heap.size (w.heap.size + 2) m gf W3 (HS1.out.f.below HB3.out HS1.out.f.lt) (HK3.out.cell 0) HK3.out.lt (by omega)); have HKF := ah (Bu (w.heap.size + 2) wo); have z3 : wo.heap.size + 1 = W3.heap.size := by rw [<- hW3]; simp
    rw [hW3] at HKF; clear hS hW3; go_wp2_with fail; refine HKF.out.mono ?_; rintro e w' ⟨rfl, hw'⟩; have hw2 := hw'.symm; clear hw'; subst hw2; go_wp2_with fail; refine HC3.out.mono ?_; rintro e w4 ⟨A4, c4, ks, rfl, hk4, hr4, hb4⟩; have HK4 := ah hk4; have HR4 := ah hr4; have HB4 := ah hb4; have HBo4 : Hid (Below wo.heap.size wo w4) := HB3.out.trans (hb4.mono HB3.out.size); have z4 : W3.heap.size <= w4.heap.size := hb4.size; clear hk4 hr4 hb4 HC3 HKF; obtain ⟨W5, hW5⟩ : ∃ W, w4.alloc (.cells #[.map (some (w.heap.size + 1))] 165) = W := ⟨_, rfl⟩
    have HK5 : Hid (Bk W5 w4.heap.size 165 #[.map (some (w.heap.size + 1))]) := by rw [<- hW5]; exact Bk.new w4 _ _
    have HB5 : Hid (Below w4.heap.size w4 W5) := by rw [<- hW5]; exact (Below.refl _ w4).alloc ai _
    have HBo5 : Hid (Below wo.heap.size wo W5) := HBo4.out.trans (HB5.out.mono HBo4.out.size); have HR5 : Hid (W5.ownsRow W3.heap.size 9 1 (.slice A4 ks.length c4) ks.length (strs ks)) := by
     rw [<- hW5]; exact HR4.out.kept (World.grownBy_alloc w4 _ none) (by cases hv : (Value.slice A4 ks.length c4).ownBlock with | none => exact .inl rfl | some k => exact .inr (by simp))
    have HC5 := ah (CR w4.heap.size (w.heap.size + 1) m gb A4 ks.length c4 ks W3 W5 (HS1.out.b.below HBo5.out HS1.out.b.lt) (HK5.out.cell 0) HK5.out.lt HR5.out (HB4.out.trans (HB5.out.mono z4)) (by have := HK4.out.few; omega)); have HKB := ah (BV (w.heap.size + 1) w4); rw [hW5] at HKB; clear hW5; go_wp2_with fail; refine HKB.out.mono ?_; rintro e w' ⟨rfl, hw'⟩; have hw2 := hw'.symm; clear hw'; subst hw2; go_wp2_with fail; refine HC5.out.mono ?_; rintro e w6 ⟨A6, c6, qs, rfl, hq6, hr6, hb6⟩; have HNE := ah (CW HOL.out HS1.out.gbs HS1.out.gfs HK4.out hq6); have hnl : ks.length + qs.length <= 400 := by have := HK4.out.few; have := hq6.few; omega
    have HSO := ah (Cc W3.heap.size (ks.length + qs.length) c6 A6 (ks ++ qs) w6 hr6 (by omega)); have HB6 := ah hb6; have HRG : Hid (∀ k, (Value.slice A6 (ks.length + qs.length) c6).ownBlock = some k -> W3.heap.size <= k) := fun k hk => (jO hr6 hk).1; clear hr6 hq6 hb6 HC5 HKB HK4 HR4 HR5; go_wp2_with fail; refine HSO.out.mono ?_; rintro e w7 ⟨rfl, hs7, hg7⟩; have HB7 : Hid (Below W3.heap.size W3 w7) := HB6.out.grown hg7 HB6.out.size (fun k e => HRG.out k e); have HS7 : Hid (Sl w7 w7.heap.size 1 A6 (ks.length + qs.length) (strs (aU l))) := by
     have := Sl.of_own hs7; rw [HNE.out.1] at this; exact this
    have HBo7 : Hid (Below wo.heap.size wo w7) := HB3.out.trans (HB7.out.mono HB3.out.size); have HSM7 := ah (HS1.out.below HBo7.out); have HD7 := ah (hD.out.below HBo7.out (by omega)); have HBw7 : Hid (Below w.heap.size w w7) := hBel.out.trans (HBo7.out.mono (by omega)); obtain ⟨nn, hnn⟩ : ∃ nn, ks.length + qs.length = nn := ⟨_, rfl⟩
    rw [hnn] at HS7 hnl; have HNL : Hid ((aU l).length = nn) := by have := HS7.out.1; rw [kY] at this; show _ = _; omega
    have z7 : w.heap.size + 3 <= w7.heap.size := by have := HBo7.out.size; omega
    clear hs7 hg7 HRG HB6 HSO HB7 HBo7 HS1 hD hBel HB3 HK3 HB4 HBo4 HK5 HB5 HBo5; obtain ⟨W8, hW8⟩ : ∃ W, w7.alloc (.cells #[.int .i64 2, .string ⟨#[]⟩, .slice none 0 0, .int .u64 0, .int .u64 0, .slice none 0 0, .string ⟨#[]⟩, .int .i64 0, .string ⟨#[]⟩] 75) = W := ⟨_, rfl⟩
    have HW8 := ah hW8; clear hW8; go_wp2_with fail; have HO8 : Hid (Bk W8 w7.heap.size 75 #[.int .i64 2, .string ⟨#[]⟩, .slice none 0 0, .int .u64 0, .int .u64 0, .slice none 0 0, .string ⟨#[]⟩, .int .i64 0, .string ⟨#[]⟩]) := by rw [<- HW8.out]; exact Bk.new w7 _ _
    have HB8 : Hid (Below w7.heap.size w7 W8) := by rw [<- HW8.out]; exact (Below.refl _ w7).alloc ai _
    have z8 : w7.heap.size + 1 = W8.heap.size := by rw [<- HW8.out]; simp
    rw [HW8.out]; clear HW8; obtain ⟨i0, hi, hz0, hz1, hz2⟩ := info_parts p8; have Hi := ah hi; have Hz0 := ah hz0; have Hz1 := ah hz1; have Hz2 := ah hz2; clear hi hz0 hz1 hz2
    go_loopw [0, 65] (fun pv i wr => ∃ (j : Nat) (q : List Itm) (es : List Ent) (Aq : OA) (cq : Nat) (EA : OA) (ec : Nat), pv = .slice Aq q.length cq /\ i = .int .i64 (j : Int) /\ j <= nn /\ Hid (StoAt k l p j q es) /\ Hid (Ply wr w.heap.size A c p Aq cq q) /\ q.length <= cq /\ cq <= maxLen ∧
     Hid (Apd wr (w7.heap.size + 1) 111 4 EA j ec (flat enC es)) /\ j <= ec /\ ec <= maxLen /\ Hid (Bk wr w7.heap.size 75 #[.int .i64 2, .string ⟨#[]⟩, .slice EA j ec, .int .u64 0, .int .u64 0, .slice none 0 0, .string ⟨#[]⟩, .int .i64 0, .string ⟨#[]⟩]) /\ Hid (Below w7.heap.size w7 wr) /\ w7.heap.size + 1 <= wr.heap.size) (fun _ i _ => nn - (intOf i).toNat)
    case atStart => exact ⟨0, p, [], A, c, none, 0, by rw [HPL.out], rfl, Nat.zero_le _, StoAt.start HPO.out, .inl ⟨rfl, rfl, rfl⟩, by rw [HPL.out]; exact HNC.out, HCM.out, .inr ⟨rfl, rfl, rfl⟩, Nat.le_refl _, Nat.zero_le _, HO8.out, HB8.out, by omega⟩
    case round =>
     clear HO8 HB8; obtain ⟨j, q, es, Aq, cq, EA, ec, rfl, rfl, hj, hSt, hPly, hqc, hcq, hAp, hje, hec, hOB, hBel, hwz⟩ := hrel; by_cases hlt : j < nn
     . have hlz : (j : Int) < (nn : Int) := by omega
       obtain ⟨nb, noff, x, rfl, hnb, hx, y0⟩ := (HS7.out.below hBel.out ai).str_at hlt; have HX := ah hx; have hxn := (oP (qE HOL.out hx)).2; have hxd := HNE.out.2 x (List.mem_of_getElem? hx); clear hx; obtain ⟨We, hWe⟩ : ∃ W, wr.alloc (.cells #[.string x, .bool false, .int .u64 0, .int .u64 0] 111) = W := ⟨_, rfl⟩
       have HEe : Hid (Bk We wr.heap.size 111 #[.string x, .bool false, .int .u64 0, .int .u64 0]) := by rw [<- hWe]; exact Bk.new wr _ _
       have HBe : Hid (Below wr.heap.size wr We) := by rw [<- hWe]; exact (Below.refl _ wr).alloc ai _
       have ze : wr.heap.size + 1 = We.heap.size := by rw [<- hWe]; simp
       have HSMe := ah (HSM7.out.below (hBel.out.trans (HBe.out.mono (by omega)))); have hsm : x.size <= maxLen := by unfold maxLen; omega
       have hlk : (Instr.lookup 166 (.map (some (w.heap.size + 1 + 1))) (.string x) true).run Tryz.prog (wr.alloc (.cells #[.string x, .bool false, .int .u64 0, .int .u64 0] 111)) = .ok (.tuple #[(gf x).getD (.agg #[.string ⟨#[]⟩, .string ⟨#[]⟩]), .bool (gf x).isSome]) (wr.alloc (.cells #[.string x, .bool false, .int .u64 0, .int .u64 0] 111)) := by
        rw [hWe]; exact HSMe.out.f.look_ok Tryz.underlying9 Tryz.underlying166 (Tryz.zeroValue94 _) hsm
       have hgf := HSMe.out.gfs x; rw [hxd] at hgf; have HPLN : Hid (q.length <= 800000) := by have h1 := hSt.out.plen; have h2 := HSZ.out; rw [<- HPL.out] at h2; show _ <= _; omega
       have HPC0 := ah hPly; have HWe := ah hWe; clear hWe; cases hlf : bR l x with
       | some s =>
         have HLF := ah hlf; rw [hlf] at hgf; simp only [Bool.false_eq_true, if_false, Option.map_some] at hgf; rw [hgf] at hlk; simp only [Option.getD_some, Option.isSome_some, jb] at hlk; clear hgf hlf; have hsd := HOL.out.data _ ((iA HOL.out.nod).1 HLF.out); simp only at hsd; obtain ⟨W9, hW9⟩ : ∃ W, We.alloc (.cells #[.string x, .string s] 94) = W := ⟨_, rfl⟩
         have HE9 : Hid (Bk W9 wr.heap.size 111 #[.string x, .bool false, .int .u64 0, .int .u64 0]) := by rw [<- hW9]; exact HEe.out.alloc _
         have HB9 : Hid (Below wr.heap.size wr W9) := by rw [<- hW9]; exact HBe.out.alloc HBe.out.size _
         have HF9 : Hid (Bk W9 We.heap.size 94 #[.string x, .string s]) := by rw [<- hW9]; exact Bk.new We _ _
         have z9 : We.heap.size + 1 = W9.heap.size := by rw [<- hW9]; simp
         have HW9 := ah hW9; have HBL := ah (vk s W9); clear hW9; go_wp2_with fail; rw [HWe.out, HW9.out]; refine HBL.out.mono ?_; rintro e w10 ⟨rfl, hb10⟩; have HE10 := ah (HE9.out.below hb10 (by omega)); have HB10 : Hid (Below wr.heap.size wr w10) := HB9.out.trans (hb10.mono HB9.out.size); have z10 : W9.heap.size <= w10.heap.size := hb10.size; clear hb10 HBL HE9 HB9 HF9 HW9 HWe HEe HBe; obtain ⟨⟨d1, d2⟩, hdd⟩ : ∃ d, dgO (bP s) = d := ⟨_, rfl⟩
         have HPC := ah (jI Aq q.length cq w10.heap.size q (bP s) zOs w10 (HPQ.out _ _ _ _ (hPly.out.below HB10.out) (HBw7.out.trans ((hBel.out.mono (by omega)).trans (HB10.out.mono (by omega))))) (CL _ _ _) ai hqc hcq (by have := HPLN.out; omega) hSt.out.ok.asc (jB hsd)); unfold PuE at HPC; rw [hdd] at HPC; simp only [az, <- Ck] at HPC; have HDD := ah hdd; clear hdd; go_wp2_with fail; refine HPC.out.mono ?_; rintro e w11 ⟨hq, hb11⟩; have HE11 := ah (HE10.out.below hb11 (by omega)); have HB11 : Hid (Below wr.heap.size wr w11) := HB10.out.trans (hb11.mono HB10.out.size); have z11 : w10.heap.size <= w11.heap.size := hb11.size; clear hb11 HE10 HB10; rcases hq with ⟨q2, A2, c2, hz, rfl, hs11, hc2, hm2', hy⟩ | ⟨hz, rfl⟩
         . have HZ := ah hz; have HY := ah hy
           have HST := ah ((by have h9 := hSt.out.file HOL.out HX.out HLF.out HZ.out; rw [HDD.out] at h9; exact h9 : StoAt k l p (j + 1) q2 (es ++ [⟨x, false, (d1, d2)⟩]))); clear hz hy hs11 HPC; obtain ⟨W12, hW12⟩ : ∃ W, (w11.setCell ⟨wr.heap.size, 2, none⟩ (.int .u64 d1)).setCell ⟨wr.heap.size, 3, none⟩ (.int .u64 d2) = W := ⟨_, rfl⟩
           have HE12 : Hid (Bk W12 wr.heap.size 111 #[.string x, .bool false, .int .u64 d1, .int .u64 d2]) := by rw [<- hW12]; exact (HE11.out.set 2 (.int .u64 d1)).set 3 (.int .u64 d2)
           have HB12 : Hid (Below wr.heap.size wr W12) := by rw [<- hW12]; exact (HB11.out.setCell (p := ⟨wr.heap.size, 2, none⟩) ai _).setCell (p := ⟨wr.heap.size, 3, none⟩) ai _
           have HY12 : Hid (Ply W12 w.heap.size A c p A2 c2 q2) := by
            rw [<- hW12]; exact ((hPly.out.trans HB11.out HY.out (by omega)).box HE11.out (by decide) 2 _).box (HE11.out.set 2 (.int .u64 d1)) (by decide) 3 _
           have z12 : wr.heap.size < W12.heap.size := by rw [<- hW12]; simp; omega
           have HO12 := ah (hOB.out.below HB12.out (by omega)); have HA12 := ah (hAp.out.below HB12.out); have f2 := HE11.out.free 2; have f3 := HE11.out.free 3; have u2 := HE11.out.cell 2; have u3 := HE11.out.cell 3; simp at u2 u3; obtain ⟨v0, v1, v2, v3⟩ := HE12.out.four; obtain ⟨o0, o1, o2, o3, o4, o5, o6, o7, o8⟩ := HO12.out.nine
           go_wp2_with (at_builtin; refine aI ?_)
           refine aC ?_; refine dJ (base := w7.heap.size + 1) (size := 4) _ rfl (.tmp 104) (.tmp 106) 73 rfl 111 i0 _ 40 Tryz.underlying73 Hi.out Hz0.out Hz1.out Hz2.out rfl (by decide) EA j ec (flat enC es) rfl ?own_1 (W12.heap.size + 1) _ 1 _ (enC ⟨x, false, (d1, d2)⟩) rfl ?nw_1 (by simp [enC, Value.oneCell']) ?m1_1 ?m2_1 ?m3_1 ?_
           case own_1 => exact HA12.out.below ((Below.refl _ W12).alloc ai _)
           case nw_1 =>
            have := Sl.of_bk (n := 1) (size := 4) (Bk.new W12 111 #[.string x, .bool false, .int .u64 d1, .int .u64 d2]) rfl; rw [World.size_alloc] at this; exact this
           case m1_1 => unfold maxLen; omega
           case m2_1 => omega
           case m3_1 => simp; omega
           intro A4 c4 w13 ha4 hb4 hn4 hm4 hok4; have HA13 : Hid (Apd w13 (w7.heap.size + 1) 111 4 A4 (j + 1) c4 (flat enC (es ++ [⟨x, false, (d1, d2)⟩]))) := by
            show Apd _ _ _ _ _ _ _ _; rw [bT]
            simpa [flat] using ha4
           have HB13 : Hid (Below (w7.heap.size + 1) W12 w13) := ((Below.refl (w7.heap.size + 1) W12).alloc (by omega) _).trans hb4; have HO13 := ah (HO12.out.below HB13.out (Nat.lt_succ_self _)); have HY13 := ah ((HY12.out.below ((Below.refl _ W12).alloc ai (.cells #[.string x, .bool false, .int .u64 d1, .int .u64 d2] 111))).others hok4 (by decide)); have HBB : Hid (Below w7.heap.size w7 w13) := hBel.out.trans ((HB12.out.mono (by omega)).trans (HB13.out.mono (by omega))); have hz13 : w7.heap.size + 1 <= w13.heap.size := by have := HB13.out.size; omega
           clear ha4 hb4 hok4 o0 o1 o2 o3 o4 o5 o6 o7 o8 v0 v1 v2 v3 u2 u3 f2 f3 hW12 HE11 HB11 HA12 HO12; obtain ⟨o0, o1, o2, o3, o4, o5, o6, o7, o8⟩ := HO13.out.nine; have g2 := HO13.out.free 2; go_wp2_with fail; go_roundw
           case rel => exact ⟨j + 1, q2, _, A2, c2, A4, c4, by go_num, by go_num, hlt, HST.out, HY13.out.box HO13.out (by decide) 2 _, hc2, hm2', HA13.out.setCell (a := ⟨w7.heap.size, 2, none⟩) (Nat.lt_succ_self _) _, hn4, hm4, HO13.out.set 2 (.slice A4 (j + 1) c4), HBB.out.setCell (p := ⟨w7.heap.size, 2, none⟩) ai _, by simpa using hz13⟩
           case measure => simp [intOf]; omega
         . have HN : Hid (sto (k + 1) p l = none) := hSt.out.filex HX.out HLF.out hz
           have HDx := ah (HD7.out.below (hBel.out.trans (HB11.out.mono (by omega))) (by omega)); have HBx : Hid (Below w.heap.size w w11) := HBw7.out.trans ((hBel.out.trans (HB11.out.mono (by omega))).mono (by omega)); clear hz HPC; have f2 := HE11.out.free 2; have f3 := HE11.out.free 3; have u2 := HE11.out.cell 2; have u3 := HE11.out.cell 3; simp at u2 u3; obtain ⟨W12, hW12⟩ : ∃ W, (w11.setCell ⟨wr.heap.size, 2, none⟩ (.int .u64 zD.1)).setCell ⟨wr.heap.size, 3, none⟩ (.int .u64 zD.2) = W := ⟨_, rfl⟩
           have HDy : Hid (Bk W12 w.heap.size 42 #[.int .u64 0, .int .u64 0]) := by rw [<- hW12]; exact (HDx.out.far (p := ⟨wr.heap.size, 2, none⟩) (by show w.heap.size ≠ wr.heap.size; omega) _).far (p := ⟨wr.heap.size, 3, none⟩) (by show w.heap.size ≠ wr.heap.size; omega) _
           have HBy : Hid (Below w.heap.size w W12) := by rw [<- hW12]; exact (HBx.out.setCell (p := ⟨wr.heap.size, 2, none⟩) (by show w.heap.size <= wr.heap.size; omega) _).setCell (p := ⟨wr.heap.size, 3, none⟩) (by show w.heap.size <= wr.heap.size; omega) _
           obtain ⟨d0', d1', _, _⟩ := HDy.out.two; have e0 := HDy.out.free 0; have e1 := HDy.out.free 1; go_wp2_with fail; refine bodyPost_ret (fK Tryz.results70 rfl rfl (HDy.out.set2 _ _) rfl) rfl ⟨.inr ⟨HN.out, rfl⟩, di HBy.out ai _ _⟩
       | none =>
         have HLF := ah hlf; have HNE2 := ah (xz (List.mem_of_getElem? HX.out) hlf); rw [hlf] at hgf; simp only [Bool.false_eq_true, if_false, Option.map_none] at hgf; rw [hgf] at hlk; simp only [Option.getD_none, Option.isSome_none] at hlk; clear hgf hlf; obtain ⟨W9, hW9⟩ : ∃ W, ((wr.alloc (.cells #[.string x, .bool false, .int .u64 0, .int .u64 0] 111)).alloc (.cells #[.string ⟨#[]⟩, .string ⟨#[]⟩] 94)).setCell ⟨wr.heap.size, 1, none⟩ (.bool true) = W := ⟨_, rfl⟩
         have HEx : Hid (Bk ((wr.alloc (.cells #[.string x, .bool false, .int .u64 0, .int .u64 0] 111)).alloc (.cells #[.string ⟨#[]⟩, .string ⟨#[]⟩] 94)) wr.heap.size 111 #[.string x, .bool false, .int .u64 0, .int .u64 0]) := (Bk.new wr _ _).alloc _; have HE9 : Hid (Bk W9 wr.heap.size 111 #[.string x, .bool true, .int .u64 0, .int .u64 0]) := by rw [<- hW9]; exact HEx.out.set 1 (.bool true)
         have HB9 : Hid (Below wr.heap.size wr W9) := by rw [<- hW9]; exact (((Below.refl _ wr).alloc ai _).alloc (by simp) _).setCell (p := ⟨wr.heap.size, 1, none⟩) ai _
         have z9 : wr.heap.size + 2 = W9.heap.size := by rw [<- hW9]; simp
         have HSM9 := ah (HSM7.out.below (hBel.out.trans (HB9.out.mono (by omega)))); have hlb : (Instr.lookup 165 (.map (some (w.heap.size + 1))) (.string x) false).run Tryz.prog (((wr.alloc (.cells #[.string x, .bool false, .int .u64 0, .int .u64 0] 111)).alloc (.cells #[.string ⟨#[]⟩, .string ⟨#[]⟩] 94)).setCell ⟨wr.heap.size, 1, none⟩ (.bool true)) = .ok ((gb x).getD eX) (((wr.alloc (.cells #[.string x, .bool false, .int .u64 0, .int .u64 0] 111)).alloc (.cells #[.string ⟨#[]⟩, .string ⟨#[]⟩] 94)).setCell ⟨wr.heap.size, 1, none⟩ (.bool true)) := by
          rw [hW9]; exact HSM9.out.b.look Tryz.underlying9 Tryz.underlying165 (Tryz.zeroValue95 _) hsm
         have HW9 := ah hW9; have y1 := HEx.out.cell 1; simp at y1; have f1 := HEx.out.free 1; clear hW9; have HOW := ah (HSM9.out.rows.own x); obtain ⟨vb, hvb⟩ : ∃ v, (gb x).getD eX = v := ⟨_, rfl⟩
         simp only [hvb] at HOW; have HV : Hid (∃ Ab cb, vb = .slice Ab (inD l x).length cb) := by
          rcases HOW.out.2 with ⟨h1, h2⟩ | ⟨g, cap, cur, h1, _⟩
          . exact ⟨none, 0, by rw [h1, h2]⟩
          . exact ⟨_, _, h1⟩
         obtain ⟨Ab, cb, rfl⟩ := HV.out; rw [hvb] at hlb; have HSB := ah (Sl.of_own HOW.out); have HLN : Hid (q.length + wt (inD l x) <= 800000) := by
          have h1 := hSt.out.len; rw [oM HX.out] at h1; have h2 := xE l x; have h3 := HSZ.out; rw [<- HPL.out] at h3; show _ <= _; omega
         obtain ⟨k', rfl⟩ : ∃ k', k = k' + 1 := by
          obtain ⟨f, hf⟩ := List.exists_mem_of_ne_nil _ HNE2.out; obtain ⟨g, hg, h1, _, _⟩ := mem_inD.1 hf; have h3 := (kN (HOL.out.path g hg) h1).2; have h4 := HLK.out g hg; exact ⟨k - 1, by omega⟩
         have HPC := ah (IH.out k' rfl (inD l x) (HOL.out.sub x) (fun f hf => by
          obtain ⟨g, hg, h1, h2, rfl⟩ := mem_inD.1 hf; have h3 := (kN (HOL.out.path g hg) h1).2; have h4 := HLK.out g hg; simp only; omega) q Aq q.length cq Ab (inD l x).length cb W9.heap.size W9 (HPQ.out _ _ _ _ (hPly.out.below HB9.out) (HBw7.out.trans ((hBel.out.mono (by omega)).trans (HB9.out.mono (by omega))))) HSB.out ai hqc hcq hSt.out.ok HLN.out)
         unfold qP at HPC; simp only [az] at HPC; obtain ⟨ib, hib⟩ : ∃ ib, (inD l x).length = ib := ⟨_, rfl⟩
         rw [hib] at hlb HPC; clear hvb hib HOW; go_wp2_with fail; rw [HW9.out]; refine HPC.out.mono ?_; rintro e w11 ⟨hq, hb11⟩; have HE11 := ah (HE9.out.below hb11 (by omega)); have HB11 : Hid (Below wr.heap.size wr w11) := HB9.out.trans (hb11.mono HB9.out.size); have z11 : W9.heap.size <= w11.heap.size := hb11.size; clear hb11 HE9 HB9 HW9 hlb y1 f1 HEx HWe HEe HBe; rcases hq with ⟨q2, ⟨d1, d2⟩, A2, c2, hz, hrr, rfl, hs11, hc2, hm2', hy⟩ | ⟨hz, rfl⟩
         . have HZ := ah hz; have HY := ah hy
           have HRR := ah hrr; clear hrr; have HST := ah (hSt.out.dir HOL.out HX.out HLF.out HZ.out HRR.out HNE2.out); clear hz hy hs11 HPC; obtain ⟨W12, hW12⟩ : ∃ W, (w11.setCell ⟨wr.heap.size, 2, none⟩ (.int .u64 d1)).setCell ⟨wr.heap.size, 3, none⟩ (.int .u64 d2) = W := ⟨_, rfl⟩
           have HE12 : Hid (Bk W12 wr.heap.size 111 #[.string x, .bool true, .int .u64 d1, .int .u64 d2]) := by rw [<- hW12]; exact (HE11.out.set 2 (.int .u64 d1)).set 3 (.int .u64 d2)
           have HB12 : Hid (Below wr.heap.size wr W12) := by rw [<- hW12]; exact (HB11.out.setCell (p := ⟨wr.heap.size, 2, none⟩) ai _).setCell (p := ⟨wr.heap.size, 3, none⟩) ai _
           have HY12 : Hid (Ply W12 w.heap.size A c p A2 c2 q2) := by
            rw [<- hW12]; exact ((hPly.out.trans HB11.out HY.out (by omega)).box HE11.out (by decide) 2 _).box (HE11.out.set 2 (.int .u64 d1)) (by decide) 3 _
           have z12 : wr.heap.size < W12.heap.size := by rw [<- hW12]; simp; omega
           have HO12 := ah (hOB.out.below HB12.out (by omega)); have HA12 := ah (hAp.out.below HB12.out); have f2 := HE11.out.free 2; have f3 := HE11.out.free 3; have u2 := HE11.out.cell 2; have u3 := HE11.out.cell 3; simp at u2 u3; obtain ⟨v0, v1, v2, v3⟩ := HE12.out.four; obtain ⟨o0, o1, o2, o3, o4, o5, o6, o7, o8⟩ := HO12.out.nine
           go_wp2_with (at_builtin; refine aI ?_)
           refine aC ?_; refine dJ (base := w7.heap.size + 1) (size := 4) _ rfl (.tmp 104) (.tmp 106) 73 rfl 111 i0 _ 40 Tryz.underlying73 Hi.out Hz0.out Hz1.out Hz2.out rfl (by decide) EA j ec (flat enC es) rfl ?own_1 (W12.heap.size + 1) _ 1 _ (enC ⟨x, true, (d1, d2)⟩) rfl ?nw_1 (by simp [enC, Value.oneCell']) ?m1_1 ?m2_1 ?m3_1 ?_
           case own_1 => exact HA12.out.below ((Below.refl _ W12).alloc ai _)
           case nw_1 =>
            have := Sl.of_bk (n := 1) (size := 4) (Bk.new W12 111 #[.string x, .bool true, .int .u64 d1, .int .u64 d2]) rfl; rw [World.size_alloc] at this; exact this
           case m1_1 => unfold maxLen; omega
           case m2_1 => omega
           case m3_1 => simp; omega
           intro A4 c4 w13 ha4 hb4 hn4 hm4 hok4; have HA13 : Hid (Apd w13 (w7.heap.size + 1) 111 4 A4 (j + 1) c4 (flat enC (es ++ [⟨x, true, (d1, d2)⟩]))) := by
            show Apd _ _ _ _ _ _ _ _; rw [bT]
            simpa [flat] using ha4
           have HB13 : Hid (Below (w7.heap.size + 1) W12 w13) := ((Below.refl (w7.heap.size + 1) W12).alloc (by omega) _).trans hb4; have HO13 := ah (HO12.out.below HB13.out (Nat.lt_succ_self _)); have HY13 := ah ((HY12.out.below ((Below.refl _ W12).alloc ai (.cells #[.string x, .bool true, .int .u64 d1, .int .u64 d2] 111))).others hok4 (by decide)); have HBB : Hid (Below w7.heap.size w7 w13) := hBel.out.trans ((HB12.out.mono (by omega)).trans (HB13.out.mono (by omega))); have hz13 : w7.heap.size + 1 <= w13.heap.size := by have := HB13.out.size; omega
           clear ha4 hb4 hok4 o0 o1 o2 o3 o4 o5 o6 o7 o8 v0 v1 v2 v3 u2 u3 f2 f3 hW12 HE11 HB11 HA12 HO12; obtain ⟨o0, o1, o2, o3, o4, o5, o6, o7, o8⟩ := HO13.out.nine; have g2 := HO13.out.free 2; go_wp2_with fail; go_roundw
           case rel => exact ⟨j + 1, q2, _, A2, c2, A4, c4, by go_num, by go_num, hlt, HST.out, HY13.out.box HO13.out (by decide) 2 _, hc2, hm2', HA13.out.setCell (a := ⟨w7.heap.size, 2, none⟩) (Nat.lt_succ_self _) _, hn4, hm4, HO13.out.set 2 (.slice A4 (j + 1) c4), HBB.out.setCell (p := ⟨w7.heap.size, 2, none⟩) ai _, by simpa using hz13⟩
           case measure => simp [intOf]; omega
         . have HN : Hid (sto (k' + 1 + 1) p l = none) := hSt.out.dirx HX.out HLF.out hz
           have HDx := ah (HD7.out.below (hBel.out.trans (HB11.out.mono (by omega))) (by omega)); have HBx : Hid (Below w.heap.size w w11) := HBw7.out.trans ((hBel.out.trans (HB11.out.mono (by omega))).mono (by omega)); clear hz HPC; have f2 := HE11.out.free 2; have f3 := HE11.out.free 3; have u2 := HE11.out.cell 2; have u3 := HE11.out.cell 3; simp at u2 u3; obtain ⟨W12, hW12⟩ : ∃ W, (w11.setCell ⟨wr.heap.size, 2, none⟩ (.int .u64 zD.1)).setCell ⟨wr.heap.size, 3, none⟩ (.int .u64 zD.2) = W := ⟨_, rfl⟩
           have HDy : Hid (Bk W12 w.heap.size 42 #[.int .u64 0, .int .u64 0]) := by rw [<- hW12]; exact (HDx.out.far (p := ⟨wr.heap.size, 2, none⟩) (by show w.heap.size ≠ wr.heap.size; omega) _).far (p := ⟨wr.heap.size, 3, none⟩) (by show w.heap.size ≠ wr.heap.size; omega) _
           have HBy : Hid (Below w.heap.size w W12) := by rw [<- hW12]; exact (HBx.out.setCell (p := ⟨wr.heap.size, 2, none⟩) (by show w.heap.size <= wr.heap.size; omega) _).setCell (p := ⟨wr.heap.size, 3, none⟩) (by show w.heap.size <= wr.heap.size; omega) _
           obtain ⟨d0', d1', _, _⟩ := HDy.out.two; have e0 := HDy.out.free 0; have e1 := HDy.out.free 1; go_wp2_with fail; refine bodyPost_ret (fK Tryz.results70 rfl rfl (HDy.out.set2 _ _) rfl) rfl ⟨.inr ⟨HN.out, rfl⟩, di HBy.out ai _ _⟩
     . have hlz : ¬ (j : Int) < (nn : Int) := by omega
       have HJN : Hid (j = nn) := by show _ = _; omega
       have HBz : Hid (Below w.heap.size w wr) := HBw7.out.trans (hBel.out.mono (by omega)); have HDz := ah (HD7.out.below hBel.out (by omega)); have HELN : Hid (es.length = j) := hSt.out.elen (by rw [HNL.out]; exact hj); have HES := ah (hSt.out.es HOL.out); have HPC := ah (jI Aq q.length cq wr.heap.size q (bI es) ⟨EA, j, ec, none, 0, 0⟩ wr (HPQ.out _ _ _ _ hPly.out HBz.out) ⟨hAp.out.sl, Sl.nil _ _ _ _, hje, hec, Nat.le_refl _, Nat.zero_le _⟩ ai hqc hcq (by have h1 := hSt.out.plen; have h2 := HSZ.out; rw [<- HPL.out] at h2; omega) hSt.out.ok.asc (kL HES.out)); unfold PuE at HPC; obtain ⟨⟨d1, d2⟩, hdd⟩ : ∃ d, dgO (bI es) = d := ⟨_, rfl⟩
       have HDD := ah hdd; rw [hdd] at HPC; simp only [az, obV, obC, bI] at HPC; clear hdd; obtain ⟨o0, o1, o2, o3, o4, o5, o6, o7, o8⟩ := hOB.out.nine; go_wp2_with fail; refine HPC.out.mono ?_; rintro e w11 ⟨hq, hb11⟩; have HB11 : Hid (Below w.heap.size w w11) := HBz.out.trans (hb11.mono HBz.out.size); have HD11 := ah (HDz.out.below hb11 (by omega)); obtain ⟨t0, t1, _, _⟩ := HD11.out.two; have e0 := HD11.out.free 0; have e1 := HD11.out.free 1; have HBW := ah hb11; clear hb11 HPC o0 o1 o2 o3 o4 o5 o6 o7 o8; rcases hq with ⟨q2, A2, c2, hz, rfl, hs11, hc2, hm2', hy⟩ | ⟨hz, rfl⟩
       . have HN : Hid (sto (k + 1) p l = some (q2, (d1, d2))) := by
           have := hSt.out.done (by rw [HNL.out, HJN.out]; exact Nat.le_refl _) hz; rw [HDD.out] at this; exact this
         have HRR : Hid (kr p q2 (d1, d2) l) := by
          have := hSt.out.res HOL.out hz; rw [HDD.out] at this; exact this
         have HY : Hid (Ply w11 w.heap.size A c p A2 c2 q2) := hPly.out.trans HBW.out hy (by have := HBz.out.size; omega); have HY2 : Hid (Ply ((w11.setCell ⟨w.heap.size, 0, none⟩ (.int .u64 d1)).setCell ⟨w.heap.size, 1, none⟩ (.int .u64 d2)) w.heap.size A c p A2 c2 q2) := (HY.out.box HD11.out (by decide) 0 _).box (HD11.out.set 0 (.int .u64 d1)) (by decide) 1 _; clear hz hy hs11; go_wp2_with fail; refine bodyPost_ret (fK Tryz.results70 rfl rfl (HD11.out.set2 _ _) rfl) rfl ⟨.inl ⟨q2, (d1, d2), A2, c2, HN.out, HRR.out, rfl, ?_, hc2, hm2', HY2.out⟩, di HB11.out ai _ _⟩; exact HPQ.out _ _ _ _ HY2.out (di HB11.out ai _ _)
       . have HN : Hid (sto (k + 1) p l = none) := hSt.out.donex (by rw [HNL.out, HJN.out]; exact Nat.le_refl _) hz
         clear hz; go_wp2_with fail; refine bodyPost_ret (fK Tryz.results70 rfl rfl (HD11.out.set2 _ _) rfl) rfl ⟨.inr ⟨HN.out, rfl⟩, di HB11.out ai _ _⟩
theorem BN : ∀ k, qR k := by
 intro k
 induction k with
 | zero => exact tO 0 (fun k' h => by omega)
 | succ k ih => exact tO (k + 1) (fun k' h => by obtain rfl : k' = k := (by omega); exact ih)
end
end Go.Proofs.YtlcecobipgmafaaGreatDoor
