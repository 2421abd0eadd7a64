/-
  Lemmas of the card.
-/
import Derived.Deep.QuietTactic
import Derived.BigQuiet
import Derived.Deep.AppendSrc
import Derived.Deep.Upon
import Derived.Lib.ConvBytes
import Derived.Laws.IdiomStrings
import Derived.Laws.BytesArg
import Derived.Test.YtlcecobipgmafaaGreatDoorNCNd2
import Derived.Test.YtlcecobipgmafaaGreatDoorNCNd1
set_option maxRecDepth 100000
set_option maxHeartbeats 8000000
namespace Go.Proofs.YtlcecobipgmafaaGreatDoor
open Go.RowKit
section
open Go.RowKit Go.Shelf
attribute [local go_sem] Oper.semAt_some
def jW (lo : Nat) (A B : World) : Prop := B.heap[lo]? = A.heap[lo]?
theorem EJ {lo : Nat} {A B C : World} (h : jW lo A B) (k : jW lo B C) : jW lo A C := k.trans h
theorem BF {lo m : Nat} (h : lo < m) (W : World) (l : Nat) (o : Obj) (hl : m <= l) : jW lo W (W.putObj l o) := World.putObj_heap_other (by omega)
def StB (lo : Nat) (A B : World) : Prop := ∃ v, B = A.setCell ⟨lo, 0, none⟩ (.int .i64 v)
theorem Al {lo : Nat} (A B : World) (h : StB lo A B) : KeepsOthers A B := by
 obtain ⟨v, rfl⟩ := h; exact KeepsOthers.setCell _ _ _
def qH (lo : Nat) (w : World) : Nat := match w.cell? ⟨lo, 0, none⟩ with
 | some (.int _ n) => n.toNat
 | _ => 0
theorem uW {lo : Nat} {w : World} {n : Nat} (h : w.heap[lo]? = some (.cells #[.int .i64 n] 3 (0, 0))) : qH lo w = n := by
 have := cell_of_one h; simp [qH, this]
theorem BB (n lo : Nat) (hn : 1 <= n) (m : Nat) (w : World) (hm : m <= 9223372036854775807) (hlo : lo < w.heap.size) (h0 : w.heap[lo]? = some (.cells #[.int .i64 m] 3 (0, 0))) :
  qW Fence.wide n Tryz.prog 188 #[.pointer (some ⟨lo, 0, none⟩)] (fun x : UInt8 => #[.int .u8 x.toNat]) (jW lo) (StB lo)
   (fun pre => ∃ r, pre ++ r = aj m) (fun xs => xs = aj m) (fun pre => ∃ r, pre ++ r = aj m) w := fun l J Jx W hW hJ hY hJ0 => by
 have g0 : W.heap[lo]? = some (.cells #[.int .i64 m] 3 (0, 0)) := (hW.block lo (by omega)).trans h0; clear hW h0; have G0 := ah g0; have HJ := ah hJ; have HY := ah hY; have HJ0 := ah hJ0; clear g0 hJ hY hJ0; refine callsIn_of_wp Tryz.func188 rfl trivial ?_ rfl; simp only [Tryz.ntmps188, List.size_toArray, List.length_cons, List.length_nil, Nat.reduceAdd, Nat.reduceSub, Array.replicate_succ, Array.replicate_zero, List.push_toArray, List.append_toArray, List.nil_append, List.cons_append]
 gi_wp2_with fail
 gi_loopw [3, 4] (fun _ _ wr => ∃ (pre : Bytes) (c : Nat), c <= 9223372036854775807 /\ Hid (wr.heap[lo]? = some (.cells #[.int .i64 c] 3 (0, 0))) /\ Hid (pre ++ aj c = aj m) /\ J pre wr)
  (fun _ _ wr => qH lo wr)
 case atStart => exact ⟨[], m, hm, G0, rfl, HJ0.out⟩
 case round =>
  obtain ⟨pre, c, hc, k0, hsp, hj⟩ := hrel; have d0 := cell_of_one k0.out; have f0 := free_of_one k0.out; have HJR := ah hj; clear hj; by_cases hs : c < 128
  . have e8 := eZ (n := c) (by omega)
    obtain ⟨fn, tmps, assign, body, hy, hR⟩ := HY.out pre (UInt8.ofNat c) wr ⟨[], by rw [List.append_nil, <- hsp.out, bM hs]⟩ HJR.out; rw [e8] at hy; have HR := ah hR; have HE := ah (bM hs); clear hR e8; have hci : ¬ (128 : Int) <= (c : Int) := by omega
    gi_wp2
    refine HR.out.mono ?_; rintro e W3 (⟨rfl, hJ3, _⟩ | ⟨rfl, hJx3⟩)
    . gi_wp2
      go_end0
      exact ⟨⟨_, rfl⟩, .inl ⟨pre ++ [UInt8.ofNat c], by rw [<- hsp.out, HE.out], hJ3⟩⟩
    . gi_wp2
      go_end0
      exact ⟨⟨_, rfl⟩, .inr ⟨pre ++ [UInt8.ofNat c], ⟨[], by rw [<- hsp.out, HE.out, List.append_nil]⟩, hJx3⟩⟩
  . have e8 := eZ (n := c % 128 + 128) (by omega)
    have ei : (((UInt8.ofNat (c % 128 + 128)).toNat : Nat) : Int) = (c : Int) % 128 + 128 := by rw [e8]; omega
    obtain ⟨fn, tmps, assign, body, hy, hR⟩ := HY.out pre (UInt8.ofNat (c % 128 + 128)) wr ⟨aj (c / 128), by rw [<- hsp.out, iO hs, List.append_assoc]; rfl⟩ HJR.out; rw [ei] at hy; have HR := ah hR; have HE := ah (iO hs); clear hR e8 ei; have hci : (128 : Int) <= (c : Int) := by omega
    gi_wp2
    refine HR.out.mono ?_; rintro e W3 (⟨rfl, hJ3, hK3⟩ | ⟨rfl, hJx3⟩)
    . have m0 : W3.heap[lo]? = some (.cells #[.int .i64 c] 3 (0, 0)) := hK3.trans k0.out
      have e0 := cell_of_one m0; have q0 := free_of_one m0; have M0 := ah m0; have HJ3 := ah hJ3; clear m0 hJ3 hK3 d0 f0
      gi_wp2
      go_roundw
      case rel =>
       refine ⟨pre ++ [UInt8.ofNat (c % 128 + 128)], c / 128, by omega, one_setCell M0.out, ?_, HJ.out _ _ _ HJ3.out ⟨_, rfl⟩⟩; show _ = _; rw [<- hsp.out, HE.out, List.append_assoc]; rfl
      case measure =>
       have hq := one_setCell (u := .int .i64 ((c / 128 : Nat) : Int)) M0.out; rw [show (c : Int) / 128 = ((c / 128 : Nat) : Int) by omega, uW hq, uW k0.out]; omega
    . gi_wp2
      refine bodyPost_ret (results_none rfl _ _ _) rfl ?_; exact ⟨⟨_, rfl⟩, .inr ⟨pre ++ [UInt8.ofNat (c % 128 + 128)], ⟨aj (c / 128), by rw [<- hsp.out, HE.out, List.append_assoc]; rfl⟩, hJx3⟩⟩
theorem AR (m : Int) (w : World) :
  Calls Tryz.prog 181 #[.int .i64 m] w fun e w' => e = .returned (.func (.func 188) #[] #[.pointer (some ⟨w.heap.size, 0, none⟩)]) /\ w' = w.alloc (.cells #[.int .i64 m] 3) := by
 go_enter Tryz.func181, Tryz.ntmps181
 go_wp2
 go_ret
 exact ⟨rfl, rfl⟩
theorem sM {B b : Nat} {p : Value} {bs : List Value} {W W' : World} {row : Option Nat} (h : Lib.BuilderAt 219 5 B b p bs W) (hg : W.grownBy W' row) (hr : ∀ r, row = some r -> ∃ o : Obj, W.heap[r]? = some o /\ o.isCells = false) : Lib.BuilderAt 219 5 B b p bs W' := by
 obtain ⟨hB, v, hb, hown, hne⟩ := h; have key : ∀ (k : Nat) (cs : Array Value) (t : TypeId) (fr : Nat × Nat), W.heap[k]? = some (Obj.cells cs t fr) -> W'.heap[k]? = some (Obj.cells cs t fr) := fun k cs t fr hk =>
  (hg.block k (Array.getElem?_eq_some_iff.1 hk).1 (fun e => by
    obtain ⟨o, ho, hc⟩ := hr k e.symm; rw [ho] at hk; cases hk; cases hc)).trans hk
 refine ⟨hB, v, key _ _ _ _ hb, ⟨hown.1, ?_⟩, hne⟩; rcases hown.2 with h0 | ⟨g, cap, cur, hv, h1, hh, h2⟩
 . exact .inl h0
 . exact .inr ⟨g, cap, cur, hv, h1, key _ _ _ _ hh, h2⟩
theorem ni {B b : Nat} {bs : List Value} {W W' : World} {row : Option Nat} (h : Lib.IsBuilder 219 5 B b bs W) (hg : W.grownBy W' row) (hr : ∀ r, row = some r -> ∃ o : Obj, W.heap[r]? = some o /\ o.isCells = false) : Lib.IsBuilder 219 5 B b bs W' := by
 rcases h with h | h
 . exact .inl (sM h hg hr)
 . exact .inr (sM h hg hr)
theorem zf {B b lo : Nat} {bs : List Value} {W : World} {v u : Value} (h : Lib.IsBuilder 219 5 B b bs W) (hlo : W.heap[lo]? = some (.cells #[v] 3 (0, 0))) : Lib.IsBuilder 219 5 B b bs (W.setCell ⟨lo, 0, none⟩ u) := by
 have key : ∀ (k : Nat) (cs : Array Value) (t : TypeId) (fr : Nat × Nat), t ≠ 3 -> W.heap[k]? = some (Obj.cells cs t fr) -> (W.setCell ⟨lo, 0, none⟩ u).heap[k]? = some (Obj.cells cs t fr) := fun k cs t fr h3 hk =>
  (Below.heap_setCell W ⟨lo, 0, none⟩ u k (fun e => by
    have e' : k = lo := e; rw [e', hlo] at hk; simp only [Option.some.injEq, Obj.cells.injEq] at hk; exact h3 hk.2.1.symm)).trans hk
 have one : ∀ p, Lib.BuilderAt 219 5 B b p bs W -> Lib.BuilderAt 219 5 B b p bs (W.setCell ⟨lo, 0, none⟩ u) := by
  rintro p ⟨hB, v', hb, hown, hne⟩; refine ⟨hB, v', key _ _ _ _ (by decide) hb, ⟨hown.1, ?_⟩, hne⟩; rcases hown.2 with h0 | ⟨g, cap, cur, hv, h1, hh, h2⟩
  . exact .inl h0
  . exact .inr ⟨g, cap, cur, hv, h1, key _ _ _ _ (by decide) hh, h2⟩
 rcases h with h | h
 . exact .inl (one _ h)
 . exact .inr (one _ h)
theorem ry {B b : Nat} {bs : List Value} {W : World} (h : Lib.IsBuilder 219 5 B b bs W) (o : Obj) : Lib.IsBuilder 219 5 B b bs (W.alloc o) :=
 ni h (World.grownBy_alloc W o none) (fun r e => by cases e)
theorem yZ (l : Bytes) (x : UInt8) : Lib.byteCells l ++ [.int .u8 x.toNat] = Lib.byteCells (l ++ [x]) := by simp [Lib.byteCells]
theorem rM (l : Bytes) : (Lib.byteCells l).length = l.length := by simp [Lib.byteCells]
theorem rU (B b : Nat) (bs : Bytes) (m : Nat) (w : World) (h : Lib.IsBuilder 219 5 B b (Lib.byteCells bs) w) (hBw : B <= w.heap.size) (hm : m <= 1099511627776) (hlen : bs.length <= 1099511627776) :
  Calls Tryz.prog 163 #[.pointer (some ⟨b, 0, none⟩), .int .i64 m] w fun e w' => e = .returned (.tuple #[]) /\ Lib.IsBuilder 219 5 B b (Lib.byteCells (bs ++ aj m)) w' /\ Below B w w' := by
 refine (callsIn_wide (n := 6)).1 ?_; have hf78 : Fence.wide.fn 181 := trivial; have hf79 : Fence.wide.fn 182 := trivial; have HH := ah h; clear h; refine callsIn_of_wp_marks Tryz.func163 rfl trivial ?_ rfl; simp only [Tryz.ntmps163, List.size_toArray, List.length_cons, List.length_nil, Nat.reduceAdd, Nat.reduceSub, Array.replicate_succ, Array.replicate_zero, List.push_toArray, List.append_toArray, List.nil_append, List.cons_append]
 gi_wp2_with (gi_at_call 181; refine (callsIn_wide.2 (AR _ _)).mono ?_; rintro e w' ⟨rfl, rfl⟩)
 obtain ⟨W0, hW0⟩ : ∃ W0, (w.alloc (.cells #[.pointer (some ⟨b, 0, none⟩)] 217)).alloc (.cells #[.int .i64 m] 3) = W0 := ⟨_, rfl⟩
 have hz : W0.heap.size = w.heap.size + 2 := by rw [<- hW0]; simp
 have g0 : W0.heap[w.heap.size]? = some (.cells #[.pointer (some ⟨b, 0, none⟩)] 217 (0, 0)) := by
  rw [<- hW0]; exact (Below.heap_alloc _ _ _ (by simp)).trans (World.alloc_heap_new w _)
 have g1 : W0.heap[w.heap.size + 1]? = some (.cells #[.int .i64 m] 3 (0, 0)) := by
  rw [<- hW0]; have := World.alloc_heap_new (w.alloc (.cells #[.pointer (some ⟨b, 0, none⟩)] 217)) (.cells #[.int .i64 m] 3); rwa [World.size_alloc] at this
 have hb0 : Below B w W0 := by
  rw [<- hW0]; exact ((Below.refl _ w).alloc hBw _).alloc (by simp; omega) _
 have hbd : Lib.IsBuilder 219 5 B b (Lib.byteCells bs) W0 := by
  rw [<- hW0]; exact ry (ry HH.out _) _
 rw [hW0]; refine si (F := Fence.wide) (n := 6) rfl (by omega) (gf := 188) (lb := #[.pointer (some ⟨w.heap.size + 1, 0, none⟩)]) rfl trivial (enters_of Tryz.func188 (by kernel_rfl) rfl)
  (BB 5 (w.heap.size + 1) (by omega) m W0 (by omega) (by omega) g1) EJ (fun W l o hl => BF (m := w.heap.size + 2) (by omega) W l o (by omega)) Al (Below.refl _ _) (fun _ => rfl)
  (fun pre W => W.heap[w.heap.size]? = some (.cells #[.pointer (some ⟨b, 0, none⟩)] 217 (0, 0)) /\ (∃ c, W.heap[w.heap.size + 1]? = some (.cells #[.int .i64 c] 3 (0, 0))) /\ Lib.IsBuilder 219 5 B b (Lib.byteCells (bs ++ pre)) W /\ Below B w W)
  (fun _ _ _ => False) ?hI ?hIx ?hIS ⟨g0, ⟨_, g1⟩, by rw [List.append_nil]; exact hbd, hb0⟩
  (fun x => { tmps := #[.pointer (some ⟨b, 0, none⟩), .int .i64 m, .pointer (some ⟨w.heap.size, 0, none⟩), undef, .int .u8 x.toNat, .int .i64 m, .func (.func 188) #[] #[.pointer (some ⟨w.heap.size + 1, 0, none⟩)], .int .u8 x.toNat, undef, undef, undef], defers := [] }) ?assign ?body ?done ?stop
 case hI =>
  rintro pre A C row ⟨h1, ⟨c, h2⟩, h3, h4⟩ hg hr; have hnc : ∀ r, row = some r -> ∃ o : Obj, A.heap[r]? = some o /\ o.isCells = false := fun r e => (hr r e).2; have key : ∀ (k : Nat) (v : Value) (t : TypeId), A.heap[k]? = some (Obj.cells #[v] t (0, 0)) -> C.heap[k]? = some (Obj.cells #[v] t (0, 0)) := fun k v t hk =>
   (hg.block k (lt_of_block hk) (fun e => by
     obtain ⟨o, ho, hc⟩ := hnc k e.symm; rw [ho] at hk; cases hk; cases hc)).trans hk
  exact ⟨key _ _ _ h1, ⟨c, key _ _ _ h2⟩, ni h3 hg hnc, h4.grown hg (Nat.le_trans hBw h4.size) (fun k e => by have := (hr _ e).1; omega)⟩
 case hIx => rintro c pre A C row hf _ _; exact hf
 case hIS =>
  rintro pre A C ⟨h1, ⟨c, h2⟩, h3, h4⟩ ⟨v, rfl⟩; exact ⟨(Below.heap_setCell _ _ _ _ (by simp)).trans h1, ⟨v, one_setCell h2⟩, zf h3 h2, h4.setCell (p := ⟨w.heap.size + 1, 0, none⟩) (by show B <= w.heap.size + 1; omega) _⟩
 case assign =>
  intro l x W K hK
  gi_wp2
  exact hK
 case body =>
  rintro l pre x W ⟨r, hr⟩ ⟨h1, ⟨c, h2⟩, h3, h4⟩; have c0 := cell_of_one h1; have hpl : pre.length + 1 <= 6 := by
   have e1 := congrArg List.length hr; have e2 := bO 5 m (by omega); simp at e1; omega
  have H1 := ah h1; have H2 := ah h2; have H3 := ah h3; have H4 := ah h4; clear h1 h2 h3 h4 g0 g1 hb0 hW0 hz hbd hr
  gi_wp2_with (gi_at_call 182; refine (CallsIn.inRound l (callsIn_wide.2 (zl B b (Lib.byteCells (bs ++ pre)) _ _ H3.out (by rw [rM, List.length_append]; omega) (Nat.le_trans hBw H4.out.size)))).mono ?_; rintro e w' ⟨rfl, k1, k2, k3⟩)
  refine ⟨k3.others, ?_, ?_⟩
  . show _ = _
    rw [k3.same _ _ _ _ (by decide) (by decide) H2.out, H2.out]
  . refine ⟨k3.same _ _ _ _ (by decide) (by decide) H1.out, ⟨c, k3.same _ _ _ _ (by decide) (by decide) H2.out⟩, ?_, H4.out.trans k2⟩
    rw [yZ, List.append_assoc] at k1; exact .inr k1
 case done =>
  rintro D xs W hD rfl ⟨h1, _, h3, h4⟩ hK; have H3 := ah h3; have H4 := ah h4; have HK := ah hK; clear h1 h3 h4 hK
  gi_wp2
  refine ⟨by simp, .inl ⟨_, _, rfl, run_takeDeferred HK.out, ?_⟩⟩; refine ⟨_, results_none rfl _ _ _, rfl, ?_, ?_⟩
  . exact ni H3.out (grownBy_putObj' _ _ _) (fun r e => by cases e; exact ⟨_, HK.out, rfl⟩)
  . exact H4.out.grown (grownBy_putObj' _ _ _) (Nat.le_trans hBw H4.out.size) (fun k e => by cases e; omega)
 case stop =>
  rintro D c pre W hD hS hf hK; exact hf.elim
end
theorem zZ (s : ByteArray) : Lib.strCells s = Lib.byteCells (toL s) := by simp [Lib.strCells, Lib.byteCells, toL]
theorem Ac (n : Nat) (hn : n <= 1099511627776) (w : World) : Calls Tryz.prog 162 #[.int .i64 n] w fun e w' => e = .returned (.bool true) /\ w = w' := by
 have h0 : (0 : Int) <= (n : Int) := by omega
 have h1 : (n : Int) <= 1099511627776 := by omega
 go_enter Tryz.func162, Tryz.ntmps162
 go_wp2
 go_ret
 exact ⟨rfl, rfl⟩
theorem sN (n : Nat) (hn : n <= 1099511627776) (w : World) :
  Calls Tryz.prog 140 #[.int .i64 n] w fun e w' => e = .returned (.tuple #[.string (ofL (aj n)), .int .i64 0]) /\ Below w.heap.size w w' := by
 go_enter Tryz.func140, Tryz.ntmps140
 go_wp2_with (go_at_call 162; refine (Ac n hn _).mono ?_; rintro e w' ⟨rfl, rfl⟩)
 have hb := Lib.fresh_isBuilder 219 5 w; refine (rU w.heap.size w.heap.size [] n _ hb (by simp) hn (by simp)).mono ?_; rintro e w1 ⟨rfl, h1, hb1⟩; rw [List.nil_append] at h1; have H1 := ah h1; have HB1 : Hid (Below w.heap.size w w1) := ((Below.refl _ w).alloc ai _).trans hb1; clear hb hb1 h1; go_wp2_with fail; refine (Tryz.Builder_String_any w.heap.size w.heap.size (aj n) _ H1.out HB1.out.size).mono ?_; rintro e w2 ⟨rfl, hb2⟩; have HB2 := ah (HB1.out.trans hb2); clear hb2; go_wp2_with fail; go_ret2
 exact ⟨rfl, HB2.out⟩
theorem sF (s : ByteArray) (hs : s.size <= 65536) (w : World) :
  Calls Tryz.prog 141 #[.string s] w fun e w' => e = .returned (.tuple #[.string (ofL (au (toL s))), .int .i64 0]) /\ Below w.heap.size w w' := by
 have hsi : ¬ (65536 : Int) < (s.size : Int) := by omega
 have hsz := bu s; have HSZ := ah hsz; clear hsz
 go_enter Tryz.func141, Tryz.ntmps141
 go_wp2_with fail; have hb := Lib.fresh_isBuilder 219 5 w; refine (rU w.heap.size w.heap.size [] s.size _ hb (by simp) (by omega) (by simp)).mono ?_; rintro e w1 ⟨rfl, h1, hb1⟩; rw [List.nil_append] at h1; have H1 := ah h1; have HB1 : Hid (Below w.heap.size w w1) := ((Below.refl _ w).alloc ai _).trans hb1; clear hb hb1 h1; go_wp2_with fail; refine (yQ w.heap.size w.heap.size (Lib.byteCells (aj s.size)) s _ H1.out (by rw [rM]; have := bO 5 s.size (by omega); omega) HB1.out.size).mono ?_; rintro e w2 ⟨rfl, h2, hb2, _⟩; have H2 : Hid (Lib.IsBuilder 219 5 w.heap.size w.heap.size (Lib.byteCells (au (toL s))) w2) := by
  refine .inr ?_; have e1 : Lib.byteCells (aj s.size) ++ Lib.strCells s = Lib.byteCells (au (toL s)) := by
   rw [zZ]; unfold au; rw [<- HSZ.out]; simp [Lib.byteCells]
  rw [<- e1]; exact h2
 have HB2 := ah (HB1.out.trans hb2); clear hb2 h2; go_wp2_with fail; refine (Tryz.Builder_String_any w.heap.size w.heap.size _ _ H2.out HB2.out.size).mono ?_; rintro e w3 ⟨rfl, hb3⟩; have HB3 := ah (HB2.out.trans hb3); clear hb3; go_wp2_with fail; go_ret2
 exact ⟨rfl, HB3.out⟩
def bc (l : Bytes) : List Value := l.map fun b => Value.int .u8 b.toNat
theorem dG (l : Bytes) : (bc l).length = l.length := by simp [bc]
theorem nQ (l r : Bytes) : bc (l ++ r) = bc l ++ bc r := by simp [bc]
structure Txt (w : World) (base av : Nat) (A : OA) (n c : Nat) (bs : Bytes) : Prop where
 len : bs.length = n
 le : n <= c
 max : c <= maxLen
 lies : 0 < c -> ∃ b off, A = some ⟨b, off, none⟩ /\ (base <= b /\ b ≠ av) /\ b < w.heap.size /\ (∀ j, j < n -> w.cell? ⟨b, off + j, none⟩ = (bc bs)[j]?) /\ (∀ j, j < c -> (w.cell? ⟨b, off + j, none⟩).isSome = true /\ w.frozen? ⟨b, off + j, none⟩ = false)
section
variable {w w' : World} {base av n c : Nat} {A : OA} {bs : Bytes}
theorem Txt.nil (w : World) (base av : Nat) (A : OA) : Txt w base av A 0 0 [] := ⟨rfl, Nat.le_refl _, Nat.zero_le _, fun h => absurd h (by omega)⟩
theorem Txt.keep (h : Txt w base av A n c bs) (hs : w.heap.size <= w'.heap.size) (hk : ∀ k, k < w.heap.size -> w'.heap[k]? = w.heap[k]?) : Txt w' base av A n c bs :=
 ⟨h.len, h.le, h.max, fun h0 => by
   obtain ⟨b, off, e, hb, hl, hc, hf⟩ := h.lies h0; have ec : ∀ o, w'.cell? ⟨b, o, none⟩ = w.cell? ⟨b, o, none⟩ := fun o => World.cell?_of_block (a := ⟨b, o, none⟩) (hk b hl); have ef : ∀ o, w'.frozen? ⟨b, o, none⟩ = w.frozen? ⟨b, o, none⟩ := fun o => World.frozen?_of_block (a := ⟨b, o, none⟩) (hk b hl); exact ⟨b, off, e, hb, by omega, fun j hj => (ec _).trans (hc j hj), fun j hj => ⟨by rw [ec]; exact (hf j hj).1, (ef _).trans (hf j hj).2⟩⟩⟩
theorem Txt.below (h : Txt w base av A n c bs) (hb : Below w.heap.size w w') : Txt w' base av A n c bs := h.keep hb.size fun k hk => hb.block k hk
theorem Txt.avoid {av' : Nat} (h : Txt w base av A n c bs) (ha : w.heap.size <= av') : Txt w base av' A n c bs :=
 ⟨h.len, h.le, h.max, fun h0 => by
   obtain ⟨b, off, e, h1, h2, h3⟩ := h.lies h0; exact ⟨b, off, e, ⟨h1.1, by omega⟩, h2, h3⟩⟩
theorem rG {B b : Nat} (hb : B <= b) : ∀ (vs : List Value) (o : Nat) (w : World), Below B w (w.setCells b o vs)
 | [], _, w => Below.refl _ w
 | v :: vs, o, w => ((Below.refl B w).setCell (p := ⟨b, o, none⟩) hb v).trans (rG hb vs (o + 1) _)
theorem rP (b : Nat) : ∀ (vs : List Value) (o : Nat) (w : World), (w.setCells b o vs).heap.size = w.heap.size
 | [], _, _ => rfl
 | v :: vs, o, w => by
   show ((w.setCell ⟨b, o, none⟩ v).setCells b (o + 1) vs).heap.size = _; rw [rP b vs]; simp
theorem rH {b k : Nat} (hb : b ≠ k) : ∀ (vs : List Value) (o : Nat) (w : World), (w.setCells b o vs).heap[k]? = w.heap[k]?
 | [], _, _ => rfl
 | v :: vs, o, w => (rH hb vs (o + 1) _).trans (Below.heap_setCell w ⟨b, o, none⟩ v k (fun e => hb e.symm))
variable {P : Program}
theorem Txt.run_append (h : Txt w base av A n c bs) (t tx ty e : TypeId) (i : TypeInfo) (ht : P.underlying t = some (.slice e)) (hi : P.info? e = some i) (hz : i.zero = some (.int .u8 0)) (hsize : i.size = 1) (hby : i.bytes = 1)
  (x : Value) (m : Nat) (ys : Bytes) (hs : Src P 1 tx x m (bc ys) w) (hmax : n + m <= 140737488355328) (hbase : base <= w.heap.size) (hav : av < w.heap.size) :
  ∃ A' c' w', (Builtin.append_ #[t, tx] ty #[.slice A n c, x]).run P w = .ok (.slice A' (n + m) c') w' /\ Txt w' base av A' (n + m) c' (bs ++ ys) /\ Below base w w' /\ w'.heap[av]? = w.heap[av]? := by
 have hnl := hs.newsLen; rw [dG, Nat.mul_one] at hnl; have hs' : Src P i.size tx x m (bc ys) w := by rw [hsize]; exact hs
 by_cases hfit : n + m <= c
 . rcases Nat.eq_zero_or_pos c with h0 | hc
   . subst h0
     obtain rfl : n = 0 := by omega
     obtain rfl : m = 0 := by omega
     obtain rfl : ys = [] := List.eq_nil_of_length_eq_zero hnl; exact ⟨A, 0, w, run_append_nothing (P := P) w t tx ty e i ht hi A 0 0 ai x hs', by simpa using h, Below.refl _ _, rfl⟩
   . obtain ⟨b, off, rfl, hb, hl, hcell, hfree⟩ := h.lies hc
     have hsome : ∀ j, j < (bc ys).length -> (w.cell? ⟨b, off + n * i.size + j, none⟩).isSome = true := fun j hj => by
      rw [dG] at hj; rw [hsize, Nat.mul_one, Nat.add_assoc]; exact (hfree (n + j) (by omega)).1
     have hrun := run_append_room_src (P := P) w t tx ty e i ht hi b off n c x m (bc ys) hs' hfit hsome (fun j hj => by
      rw [dG] at hj; rw [hsize, Nat.mul_one, Nat.add_assoc]; exact (hfree (n + j) (by omega)).2)
     refine ⟨_, _, _, hrun, ⟨by rw [List.length_append, h.len]; omega, hfit, h.max, fun _ => ⟨b, off, rfl, hb, by rw [rP]; exact hl, fun j hj => ?_, fun j hj => ⟨?_, ?_⟩⟩⟩, rG hb.1 _ _ _, rH hb.2 _ _ _⟩
     . by_cases hj' : j < n
       . rw [World.cell?_setCells_out b _ _ _ _ (fun _ _ => .inl (by show off + j < off + n * i.size; rw [hsize]; omega)), hcell j hj', nQ, List.getElem?_append_left (by rw [dG, h.len]; exact hj')]
       . have := World.cell?_setCells_in b (bc ys) (off + n * i.size) w hsome (j - n) (by rw [dG]; omega)
         rw [hsize, Nat.mul_one, show off + n + (j - n) = off + j by omega] at this; rw [hsize, Nat.mul_one, this, nQ, List.getElem?_append_right (by rw [dG, h.len]; omega), show (bc bs).length = n by rw [dG, h.len]]; exact (List.getElem?_eq_getElem _).symm
     . by_cases hj' : n <= j /\ j < n + m
       . have := World.cell?_setCells_in b (bc ys) (off + n * i.size) w hsome (j - n) (by rw [dG]; omega)
         rw [hsize, Nat.mul_one, show off + n + (j - n) = off + j by omega] at this; rw [hsize, Nat.mul_one, this]; rfl
       . rw [World.cell?_setCells_out b _ _ _ _ (fun _ _ => by show off + j < off + n * i.size ∨ off + n * i.size + (bc ys).length <= off + j; rw [hsize, dG]; omega)]
         exact (hfree j hj).1
     . rw [World.frozen?_setCells]; exact (hfree j hj).2
 . have hold : (Builtin.firstCells i.size n (.slice A n c)).run P w.drew = .ok (bc bs).toArray w.drew := by
     rw [hsize]; rcases Nat.eq_zero_or_pos c with h0 | hc
     . subst h0
       obtain rfl : n = 0 := by have := h.le; omega
       obtain rfl : bs = [] := List.eq_nil_of_length_eq_zero h.len; cases A with
       | none => exact run_firstCells_none w.drew 1 0 0 0
       | some a' => exact run_firstCells_some w.drew 1 0 a' 0 0 [] (by simp) (by intro _ _ h'; simp at h')
     . obtain ⟨b, off, rfl, hb, hl, hcell, hfree⟩ := h.lies hc
       refine run_firstCells_some w.drew 1 n ⟨b, off, none⟩ n c (bc bs) (by rw [dG, h.len]; omega) (fun j u hu => ?_); rw [Addr.add_lit]; have hj : j < n := by have := (List.getElem?_eq_some_iff.1 hu).1; rwa [dG, h.len] at this
       exact (hcell j hj).trans hu
   have hg : c < n + m := by omega
   have h63 : n + m <= maxLen := by unfold maxLen; omega
   have hrun := run_append_grow_src (P := P) w t tx ty e i (.int .u8 0) ht hi hz A n c (bc bs) hold x m (bc ys) hs' hg (by omega) (growslice_fits hg (by rw [hby]; omega)); have hge := grownCap_ge w (n + m) c e; have hcm := grownCap_le_maxLen w (n + m) c e h63; refine ⟨_, _, _, hrun, ⟨by rw [List.length_append, h.len]; omega, hge, hcm, fun _ => ⟨w.heap.size, 0, rfl, ⟨hbase, by omega⟩, ?_, fun j hj => ?_, fun j hj => ⟨?_, ?_⟩⟩⟩, ((Below.refl base w).drew).alloc hbase _, Below.heap_alloc w.drew _ av hav⟩
   . have : (w.drew.alloc (.cells ((bc bs ++ bc ys).toArray ++ Builtin.zeroCells (Value.int .u8 0).cells (grownCap w (n + m) c e - (n + m))) e)).heap.size = w.heap.size + 1 := World.size_alloc _ _
     omega
   . have e1 : (w.drew.alloc (.cells ((bc bs ++ bc ys).toArray ++ Builtin.zeroCells (Value.int .u8 0).cells (grownCap w (n + m) c e - (n + m))) e)).cell? ⟨w.heap.size, j, none⟩ = _ := World.cell?_alloc_new w.drew _ _ j
     rw [Nat.zero_add, e1, Array.getElem?_append_left (by simp only [List.size_toArray, List.length_append, dG, h.len]; omega), List.getElem?_toArray, nQ]
   . have e1 : (w.drew.alloc (.cells ((bc bs ++ bc ys).toArray ++ Builtin.zeroCells (Value.int .u8 0).cells (grownCap w (n + m) c e - (n + m))) e)).cell? ⟨w.heap.size, j, none⟩ = _ := World.cell?_alloc_new w.drew _ _ j
     rw [Nat.zero_add, e1]; have hsz : ((bc bs ++ bc ys).toArray ++ Builtin.zeroCells (Value.int .u8 0).cells (grownCap w (n + m) c e - (n + m))).size = grownCap w (n + m) c e := by
      rw [Array.size_append, List.size_toArray, List.length_append, dG, dG, h.len, hnl, size_zeroCells]; show n + m + (grownCap w (n + m) c e - (n + m)) * 1 = _; omega
     rw [Array.getElem?_eq_getElem (by rw [hsz]; exact hj)]; rfl
   . rw [Nat.zero_add]; exact World.frozen?_alloc_new w.drew _ _ j
theorem qZ {ops : Array Oper} {rest : List Oper} {o : Oper} {a : Act} {Q : Exit -> Act -> World -> Prop} (hgd : o.guard = none) (s x : Operand) (t tx : TypeId)
  (ho : o.op = .call { callee := .builtin .append, args := #[s, x], argTypes := #[t, tx] })
  (e : TypeId) (i : TypeInfo) (ht : P.underlying t = some (.slice e)) (hi : P.info? e = some i) (hz : i.zero = some (.int .u8 0)) (hsize : i.size = 1) (hby : i.bytes = 1)
  (A : OA) (n c : Nat) (bs : Bytes) (hv : a.eval s = .slice A n c) (h : Txt w base av A n c bs)
  (xv : Value) (m : Nat) (ys : Bytes) (hx : a.eval x = xv) (hs : Src P 1 tx xv m (bc ys) w) (hmax : n + m <= 140737488355328) (hbase : base <= w.heap.size) (hav : av < w.heap.size)
  (hK : ∀ A' c' w', Txt w' base av A' (n + m) c' (bs ++ ys) -> Below base w w' -> w'.heap[av]? = w.heap[av]? -> wpList P ops Q rest (a.put o.dst (.slice A' (n + m) c')) w') : wpList P ops Q (o :: rest) a w := by
 refine wpList_plain hgd fun K hK' => ?_; obtain ⟨A', c', w', hrun, h1, h2, h3⟩ := h.run_append (P := P) t tx o.type e i ht hi hz hsize hby xv m ys hs hmax hbase hav; unfold Oper.wp; simp [execOp, ho, resolve, invoke, builtin, hv, hx, hrun, Result.andThen]; exact hK' _ _ (hK A' c' w' h1 h2 h3)
theorem Txt.run_string (h : Txt w base av A n c bs) (src dst e : TypeId) (hs : P.underlying src = some (.slice e)) (he : P.underlying e = some (.int .u8)) (hd : P.underlying dst = some .string) :
  (convert src dst (.slice A n c)).run P w = .ok (.string (ofL bs)) w := by
 rcases Nat.eq_zero_or_pos c with h0 | hc
 . subst h0
   obtain rfl : n = 0 := by have := h.le; omega
   obtain rfl : bs = [] := List.eq_nil_of_length_eq_zero h.len; cases A with
   | none => exact run_convert_bytes_nil w src e hs he 0 0 dst hd
   | some a => exact run_convert_bytes_back w src dst e a 0 [] hs he hd (fun j hj => by simp at hj)
 . obtain ⟨b, off, rfl, _, _, hcell, _⟩ := h.lies hc
   have := run_convert_bytes_back (P := P) w src dst e ⟨b, off, none⟩ c bs hs he hd (fun j hj => by
    rw [Addr.add_lit, hcell j (by rw [<- h.len]; exact hj)]; simp [bc, List.getElem?_eq_getElem hj])
   rw [h.len] at this; exact this
end
section
open Go.Maps
def pG (l : List ByteArray) : ByteArray -> Option Value := fun s => if dH l s then some (.bool true) else none
theorem E9 : pG [] = fun _ => none := by funext s; simp [pG, dH]
theorem wH (l : List ByteArray) (x : ByteArray) : pG (l ++ [x]) = upd (pG l) x (.bool true) := by
 funext t
 unfold pG upd dH; by_cases e : t = x
 . subst e; simp
 . have h : ((l ++ [x]).any fun y => decide (y = t)) = l.any fun y => decide (y = t) := by
     rw [List.any_append]; simp [Ne.symm e]
   rw [h, if_neg e]
theorem Fx (l : List ByteArray) (x : ByteArray) : (pG l x).getD (.bool false) = .bool (dH l x) := by unfold pG; cases dH l x <;> rfl
theorem Apd.grown {w w' : World} {base size n c : Nat} {e : TypeId} {A : OA} {xs : List Value} {row : Option Nat} (h : Apd w base e size A n c xs) (hg : w.grownBy w' row) (hr : ∀ k, row = some k -> k < base) : Apd w' base e size A n c xs := by
 rcases h with h | h
 . refine .inl (h.kept hg ?_)
   cases hv : (Value.slice A n c).ownBlock with
   | none => exact .inl rfl
   | some k => exact .inr fun e => by have h1 := rX h k hv; have h2 := hr k e.symm; omega
 . exact .inr h
end
theorem mg (s : ByteArray) (w : World) : Src Tryz.prog 1 9 (.string s) s.size (bc (toL s)) w := Src.ofString (P := Tryz.prog) w Tryz.underlying9 s
theorem iU : (Tryz.prog.info? 5).map (fun i => (i.zero, i.size, i.bytes)) = some (some (.int .u8 0), 1, 1) := by kernel_rfl
theorem Txt.far {w : World} {base av n c : Nat} {A : OA} {bs : Bytes} (h : Txt w base av A n c bs) {p : Addr} (hp : p.block = av) (u : Value) : Txt (w.setCell p u) base av A n c bs :=
 ⟨h.len, h.le, h.max, fun h0 => by
   obtain ⟨b, off, e, h1, h2, h3, h4⟩ := h.lies h0; have hb : (w.setCell p u).heap[b]? = w.heap[b]? := Below.heap_setCell w p u b (by rw [hp]; exact h1.2); have ec : ∀ o, (w.setCell p u).cell? ⟨b, o, none⟩ = w.cell? ⟨b, o, none⟩ := fun o => World.cell?_of_block (a := ⟨b, o, none⟩) hb; have ef : ∀ o, (w.setCell p u).frozen? ⟨b, o, none⟩ = w.frozen? ⟨b, o, none⟩ := fun o => World.frozen?_of_block (a := ⟨b, o, none⟩) hb; exact ⟨b, off, e, h1, by simpa using h2, fun j hj => (ec _).trans (h3 j hj), fun j hj => ⟨by rw [ec]; exact (h4 j hj).1, (ef _).trans (h4 j hj).2⟩⟩⟩
theorem ll {P : Program} {ops : Array Oper} {rest : List Oper} {o : Oper} {a : Act} {w : World} {Q : Exit -> Act -> World -> Prop} (s x : Operand) (t tx : TypeId) (_ : o.op = .call { callee := .builtin .append, args := #[s, x], argTypes := #[t, tx] })
  (h : Hid (wpList P ops Q (o :: rest) a w)) : wpList P ops Q (o :: rest) a w := h
structure Wrt (w : World) (b base : Nat) (bs : Bytes) : Prop where
 ex : ∃ A c, Bk w b 180 #[.slice A bs.length c, .bool false] /\ Txt w base b A bs.length c bs
 lt : b < base
 le : base <= w.heap.size
theorem Wrt.below {w w' : World} {b base : Nat} {bs : Bytes} (h : Wrt w b base bs) (hb : Below w.heap.size w w') : Wrt w' b base bs := by
 obtain ⟨A, c, h1, h2⟩ := h.ex; exact ⟨⟨A, c, h1.below hb h1.lt, h2.below hb⟩, h.lt, Nat.le_trans h.le hb.size⟩
def qm (b base : Nat) (bs : Bytes) (w : World) (e : Ending) (w' : World) : Prop := e = .returned (.tuple #[]) /\ Wrt w' b base bs /\ Below b w w' /\ w.heap.size <= w'.heap.size
theorem fV (b base k : Nat) (bs : Bytes) (w : World) (h : Wrt w b base bs) (hk : k <= 1099511627776) (hn : bs.length <= 1000000) :
  Calls Tryz.prog 113 #[.pointer (some ⟨b, 0, none⟩), .int .i64 k] w (qm b base (bs ++ aj k) w) := by
 have HP := ah (sN k hk w); have H := ah h; have hle := bO 5 k (by omega); obtain ⟨i0, hi, hz0, hz1, hz2⟩ := info_parts iU; have Hi := ah hi; have Hz0 := ah hz0; have Hz1 := ah hz1; have Hz2 := ah hz2; clear h hi hz0 hz1 hz2
 go_enter Tryz.func113, Tryz.ntmps113
 go_wp2_with (go_at_call 140; refine HP.out.mono ?_; rintro e w1 ⟨rfl, hb1⟩; refine aI ?_)
 refine aC ?_; have H1 := H.out.below hb1; obtain ⟨A, c, hk1, ht1⟩ := H1.ex; have hlt := H1.lt; have hbase := H1.le; have HB1 : Hid (Below b w w1) := hb1.mono (by have := H.out.lt; have := H.out.le; omega); have hz1 := hb1.size; have HK1 := ah hk1; have HT1 := ah ht1; have c0 := HK1.out.cell 0; have c1 := HK1.out.cell 1; have f1 := HK1.out.free 1; simp at c0 c1; clear hb1 H1 hk1 ht1; obtain ⟨W2, hW2⟩ : ∃ W2, w1.setCell ⟨b, 1, none⟩ (.bool false) = W2 := ⟨_, rfl⟩
 have HK2 : Hid (Bk W2 b 180 #[.slice A bs.length c, .bool false]) := by
  rw [<- hW2]; have := HK1.out.set 1 (.bool false); show Bk _ _ _ _; simpa using this
 have HT2 : Hid (Txt W2 base b A bs.length c bs) := by rw [<- hW2]; exact HT1.out.far rfl _
 have HB2 : Hid (Below b w W2) := by rw [<- hW2]; exact HB1.out.setCell (p := ⟨b, 1, none⟩) ai _
 have zW2 : W2.heap.size = w1.heap.size := by rw [<- hW2]; simp
 have d0 := HK2.out.cell 0; have g0 := HK2.out.free 0; simp at d0
 go_wp2_with (at_builtin; refine ll (.tmp 26) (.tmp 27) 178 9 rfl ?_)
 refine aC ?_; refine qZ (base := base) (av := b) rfl (.tmp 26) (.tmp 27) 178 9 rfl 5 i0 Tryz.underlying178 Hi.out Hz0.out Hz1.out Hz2.out A bs.length c bs rfl HT2.out (.string (ofL (aj k))) (aj k).length (aj k) rfl (mg (ofL (aj k)) _) (by omega) (by omega) (by omega) ?_; intro A' c' w3 ht3 hb3 hk3; have HK3 : Hid (Bk w3 b 180 #[.slice A bs.length c, .bool false]) := hk3.trans HK2.out; have HT3 := ah ht3; have HB3 : Hid (Below b w w3) := HB2.out.trans (hb3.mono (by omega)); have hz3 := hb3.size; have e0 := HK3.out.cell 0; have e1 := HK3.out.free 0; simp at e0; clear ht3 hb3 hk3 d0 g0 c0 c1 f1; go_wp2_with fail
 go_end0
 have hl : (bs ++ aj k).length = bs.length + (aj k).length := by simp
 refine ⟨rfl, ⟨⟨A', c', ?_, ?_⟩, hlt, by simp; omega⟩, HB3.out.setCell (p := ⟨b, 0, none⟩) ai _, by simp; omega⟩
 . rw [hl]; have := HK3.out.set 0 (.slice A' (bs.length + (aj k).length) c'); show Bk _ _ _ _; simpa using this
 . rw [hl]; exact HT3.out.far rfl _
theorem jl (b base : Nat) (s : ByteArray) (bs : Bytes) (w : World) (h : Wrt w b base bs) (hk : s.size <= 65536) (hn : bs.length <= 1000000) :
  Calls Tryz.prog 114 #[.pointer (some ⟨b, 0, none⟩), .string s] w (qm b base (bs ++ au (toL s)) w) := by
 have HP := ah (sF s hk w); have H := ah h; have hle : (au (toL s)).length <= 70000 := by
  have h1 := bO 5 s.size (by omega); have h2 := bu s; unfold au; rw [List.length_append, <- h2]; omega
 obtain ⟨i0, hi, hz0, hz1, hz2⟩ := info_parts iU; have Hi := ah hi; have Hz0 := ah hz0; have Hz1 := ah hz1; have Hz2 := ah hz2; clear h hi hz0 hz1 hz2
 go_enter Tryz.func114, Tryz.ntmps114
 go_wp2_with (go_at_call 141; refine HP.out.mono ?_; rintro e w1 ⟨rfl, hb1⟩; refine aI ?_)
 refine aC ?_; have H1 := H.out.below hb1; obtain ⟨A, c, hk1, ht1⟩ := H1.ex; have hlt := H1.lt; have hbase := H1.le; have HB1 : Hid (Below b w w1) := hb1.mono (by have := H.out.lt; have := H.out.le; omega); have hz1 := hb1.size; have HK1 := ah hk1; have HT1 := ah ht1; have c0 := HK1.out.cell 0; have c1 := HK1.out.cell 1; have f1 := HK1.out.free 1; simp at c0 c1; clear hb1 H1 hk1 ht1; obtain ⟨W2, hW2⟩ : ∃ W2, w1.setCell ⟨b, 1, none⟩ (.bool false) = W2 := ⟨_, rfl⟩
 have HK2 : Hid (Bk W2 b 180 #[.slice A bs.length c, .bool false]) := by
  rw [<- hW2]; have := HK1.out.set 1 (.bool false); show Bk _ _ _ _; simpa using this
 have HT2 : Hid (Txt W2 base b A bs.length c bs) := by rw [<- hW2]; exact HT1.out.far rfl _
 have HB2 : Hid (Below b w W2) := by rw [<- hW2]; exact HB1.out.setCell (p := ⟨b, 1, none⟩) ai _
 have zW2 : W2.heap.size = w1.heap.size := by rw [<- hW2]; simp
 have d0 := HK2.out.cell 0; have g0 := HK2.out.free 0; simp at d0
 go_wp2_with (at_builtin; refine ll (.tmp 25) (.tmp 26) 178 9 rfl ?_)
 refine aC ?_; refine qZ (base := base) (av := b) rfl (.tmp 25) (.tmp 26) 178 9 rfl 5 i0 Tryz.underlying178 Hi.out Hz0.out Hz1.out Hz2.out A bs.length c bs rfl HT2.out (.string (ofL (au (toL s)))) (au (toL s)).length (au (toL s)) rfl (mg (ofL (au (toL s))) _) (by omega) (by omega) (by omega) ?_; intro A' c' w3 ht3 hb3 hk3; have HK3 : Hid (Bk w3 b 180 #[.slice A bs.length c, .bool false]) := hk3.trans HK2.out; have HT3 := ah ht3; have HB3 : Hid (Below b w w3) := HB2.out.trans (hb3.mono (by omega)); have hz3 := hb3.size; have e0 := HK3.out.cell 0; have e1 := HK3.out.free 0; simp at e0; clear ht3 hb3 hk3 d0 g0 c0 c1 f1; go_wp2_with fail
 go_end0
 have hl : (bs ++ au (toL s)).length = bs.length + (au (toL s)).length := by simp
 refine ⟨rfl, ⟨⟨A', c', ?_, ?_⟩, hlt, by simp; omega⟩, HB3.out.setCell (p := ⟨b, 0, none⟩) ai _, by simp; omega⟩
 . rw [hl]; have := HK3.out.set 0 (.slice A' (bs.length + (au (toL s)).length) c'); show Bk _ _ _ _; simpa using this
 . rw [hl]; exact HT3.out.far rfl _
@[go_sem] theorem GK : Tryz.prog.eqGuardType Tryz.prog.depth 42 = false := by kernel_rfl
theorem FT (dd : Nat) (a b c d : Int) (w : World) : (Op.equalIn (dd + 2) 42 (.agg #[.int .u64 a, .int .u64 b]) (.agg #[.int .u64 c, .int .u64 d])).run Tryz.prog w = .ok (a == c && b == d) w := by
 have u3 := Tryz.underlying40; have a3 := Tryz.isAgg40; have z3 := Tryz.sizeOf40; rw [Op.equalIn]; simp only [Sem.run_bind, run_underlying Tryz.underlying42, Result.andThen_ok]; simp only [Std.Legacy.Range.forIn_eq_forIn_range', Std.Legacy.Range.size, Nat.sub_zero, Nat.add_sub_cancel, Nat.div_one, List.range'_succ, List.range'_zero, List.forIn_cons, List.forIn_nil]
 go_simp
 by_cases h1 : a = c <;> by_cases h2 : b = d <;> simp [h1, h2]
@[go_sem high] theorem GQ (a b c d : Int) (w : World) : (Op.equalIn 10000 42 (.agg #[.int .u64 a, .int .u64 b]) (.agg #[.int .u64 c, .int .u64 d])).run Tryz.prog w = .ok (a == c && b == d) w := FT 9998 a b c d w
def dN (d : ByteArray) : Array Value := #[.int .i64 1, .string d, .slice none 0 0, .int .u64 0, .int .u64 0, .slice none 0 0, .string ⟨#[]⟩, .int .i64 0, .string ⟨#[]⟩]
theorem Ba {w : World} {a : Array Value} {b : Nat} {d : ByteArray} (ha : a[2]?.getD undef = .pointer (some ⟨b, 0, none⟩)) (h : Bk w b 75 (dN d)) : (results Tryz.f105 a).run Tryz.prog w = .ok (.agg (dN d)) w := by
 have c0 := h.cell 0; have c1 := h.cell 1; have c2 := h.cell 2; have c3 := h.cell 3; have c4 := h.cell 4; have c5 := h.cell 5; have c6 := h.cell 6; have c7 := h.cell 7; have c8 := h.cell 8; simp [dN] at c0 c1 c2 c3 c4 c5 c6 c7 c8; simp [results, Tryz.results105, ha, go_sem, dN, c0, c1, c2, c3, c4, c5, c6, c7, c8]
theorem vk (d : ByteArray) (w : World) : Calls Tryz.prog 105 #[.string d] w fun e w' => e = .returned (.agg (dN d)) /\ Below w.heap.size w w' := by
 go_enter Tryz.func105, Tryz.ntmps105
 go_wp2
 have hk : Bk (w.alloc (.cells (dN d) 75)) w.heap.size 75 (dN d) := Bk.new w _ _; exact bodyPost_ret (Ba rfl hk) rfl ⟨rfl, (Below.refl _ w).alloc ai _⟩
theorem zP (d : ByteArray) (w : World) : Calls Tryz.prog 112 #[.agg (dN d)] w fun e w' => e = .returned (.int .i64 0) /\ Below w.heap.size w w' := by
 unfold dN
 go_enter Tryz.func112, Tryz.ntmps112
 go_wp2
 all_goals (go_ret; exact ⟨rfl, (Below.refl _ w).alloc ai _⟩)
theorem Cw (d : ByteArray) (w : World) (hd : d.size <= 60000) : Calls Tryz.prog 71 #[.agg (dN d)] w fun e w' => e = .returned (.tuple #[.string (ofL (aj 1 ++ au (toL d))), .int .i64 0]) /\ Below w.heap.size w w' := by
 have hsd := bu d; have hle : (au (toL d)).length <= 60006 := by
  have h1 := bO 5 d.size (by omega); unfold au; rw [List.length_append, <- hsd]; omega
 have hl1 : (aj 1).length = 1 := by rw [bM (by omega)]; rfl
 have HC := fun w => ah (zP d w); unfold dN at HC ⊢; obtain ⟨W0, hW0⟩ : ∃ W0, w.alloc (.cells #[.int .i64 1, .string d, .slice none 0 0, .int .u64 0, .int .u64 0, .slice none 0 0, .string ⟨#[]⟩, .int .i64 0, .string ⟨#[]⟩] 75) = W0 := ⟨_, rfl⟩
 have HB0 : Hid (Below w.heap.size w W0) := by rw [<- hW0]; exact (Below.refl _ w).alloc ai _
 have HK0 : Hid (Bk W0 w.heap.size 75 #[.int .i64 1, .string d, .slice none 0 0, .int .u64 0, .int .u64 0, .slice none 0 0, .string ⟨#[]⟩, .int .i64 0, .string ⟨#[]⟩]) := by rw [<- hW0]; exact Bk.new w _ _
 have zW0 : W0.heap.size = w.heap.size + 1 := by rw [<- hW0]; simp
 have HC0 := HC W0; have c0 := HK0.out.cell 0; have c1 := HK0.out.cell 1; have c2 := HK0.out.cell 2; have c3 := HK0.out.cell 3; have c4 := HK0.out.cell 4; have c5 := HK0.out.cell 5; have c6 := HK0.out.cell 6; have c7 := HK0.out.cell 7; have c8 := HK0.out.cell 8; simp at c0 c1 c2 c3 c4 c5 c6 c7 c8; clear HC
 go_enter Tryz.func71, Tryz.ntmps71
 go_wp2_with fail; refine HC0.out.mono ?_; rintro e w1 ⟨rfl, hb1⟩; have HB1 : Hid (Below w.heap.size w w1) := HB0.out.trans (hb1.mono (by omega)); have HK1 := ah (HK0.out.below hb1 (by omega)); have hz1 := hb1.size; clear hb1 hW0 c0 c1 c2 c3 c4 c5 c6 c7 c8 HC0; obtain ⟨W2, hW2⟩ : ∃ W2, w1.alloc (.cells #[.slice none 0 0, .bool false] 180) = W2 := ⟨_, rfl⟩
 have zW2 : W2.heap.size = w1.heap.size + 1 := by rw [<- hW2]; simp
 have HB2 : Hid (Below w1.heap.size w1 W2) := by rw [<- hW2]; exact (Below.refl _ w1).alloc ai _
 have HW2 : Hid (Wrt W2 w1.heap.size (w1.heap.size + 1) []) := ⟨⟨none, 0, by rw [<- hW2]; exact Bk.new w1 _ _, Txt.nil _ _ _ _⟩, by omega, by omega⟩
 have HK2 := ah (HK1.out.below HB2.out (by omega)); have HN := ah (fV w1.heap.size (w1.heap.size + 1) 1 [] W2 HW2.out (by omega) (by simp)); have c0 := HK2.out.cell 0; simp at c0
 go_wp2_with (go_at_call 113; refine HN.out.mono ?_; rintro e w3 ⟨rfl, hw3, hb3, hz3⟩; refine aI ?_)
 refine aC ?_; have HW3 := ah hw3; have HB3 : Hid (Below w1.heap.size w1 w3) := HB2.out.trans hb3; have HK3 := ah (HK2.out.below hb3 (by omega)); clear hw3 hb3 hW2 c0 HN; have HS := ah (jl w1.heap.size (w1.heap.size + 1) d (([] : Bytes) ++ aj 1) w3 HW3.out (by omega) (by simp [hl1])); have c0 := HK3.out.cell 0; have c1 := HK3.out.cell 1; simp at c0 c1
 go_wp2_with (go_at_call 114; refine HS.out.mono ?_; rintro e w4 ⟨rfl, hw4, hb4, hz4⟩; refine aI ?_)
 refine aC ?_; obtain ⟨A, cc, hk4, ht4⟩ := hw4.ex; rw [List.nil_append] at hk4 ht4; have hln : (aj 1 ++ au (toL d)).length <= 60007 := by rw [List.length_append, hl1]; omega
 have hlz : ¬ (65536 : Int) < ((aj 1 ++ au (toL d)).length : Int) := by omega
 have HB4 : Hid (Below w1.heap.size w1 w4) := HB3.out.trans hb4; have d0 := hk4.cell 0; have d1 := hk4.cell 1; simp only [List.getElem?_toArray, List.getElem?_cons_zero, List.getElem?_cons_succ] at d0 d1; have hcv := ht4.run_string (P := Tryz.prog) 178 9 5 Tryz.underlying178 Tryz.underlying5 Tryz.underlying9; obtain ⟨bs, hbs⟩ : ∃ bs, aj 1 ++ au (toL d) = bs := ⟨_, rfl⟩
 rw [hbs] at d0 hcv hlz; have HBS := ah hbs; clear hw4 hb4 hk4 ht4 c0 c1 HS hln hbs; go_wp2_with fail; go_ret2
 refine ⟨by rw [HBS.out]; rfl, HB1.out.trans (HB4.out.mono (by omega))⟩
theorem Ar (d : ByteArray) (w : World) (hd : d.size <= 60000) : Calls Tryz.prog 62 #[.agg (dN d)] w fun e w' => e = .returned (.int .i64 0) /\ Below w.heap.size w w' := by
 have HE := fun w => ah (Cw d w hd); unfold dN at HE ⊢; have HB0 : Hid (Below w.heap.size w (w.alloc (.cells #[.int .i64 1, .string d, .slice none 0 0, .int .u64 0, .int .u64 0, .slice none 0 0, .string ⟨#[]⟩, .int .i64 0, .string ⟨#[]⟩] 75))) := (Below.refl _ w).alloc ai _; have HE0 := HE (w.alloc (.cells #[.int .i64 1, .string d, .slice none 0 0, .int .u64 0, .int .u64 0, .slice none 0 0, .string ⟨#[]⟩, .int .i64 0, .string ⟨#[]⟩] 75)); clear HE
 go_enter Tryz.func62, Tryz.ntmps62
 go_wp2_with (go_at_call 71; refine HE0.out.mono ?_; rintro e w1 ⟨rfl, hb1⟩)
 go_ret
 exact ⟨rfl, HB0.out.trans (hb1.mono (by simp))⟩
section
open Go.Maps
def upB : Option ByteArray -> ByteArray -> Bool
 | none, _ => true
 | some q, s => less q s
def dB : Option ByteArray -> List Fl -> Int
 | _, [] => 0
 | p, f :: r => if cZ f.1 = true then (if upB p f.1 = true then dB (some f.1) r else 10) else 6
def eO (fs : List Fl) (k : Nat) : Option ByteArray := if k = 0 then none else (fs[k - 1]?).map Prod.fst
theorem DW {fs : List Fl} {k : Nat} {f : Fl} (h : fs[k]? = some f) : dB (eO fs k) (fs.drop k) = if cZ f.1 = true then (if upB (eO fs k) f.1 = true then dB (eO fs (k + 1)) (fs.drop (k + 1)) else 10) else 6 := by
 have hp : eO fs (k + 1) = some f.1 := by unfold eO; rw [if_neg (by omega), Nat.add_sub_cancel, h]; rfl
 rw [List.drop_eq_getElem_cons (List.getElem?_eq_some_iff.1 h).1, (List.getElem?_eq_some_iff.1 h).2, dB, hp]
def eQ (ps : List ByteArray) (s : ByteArray) (k : Nat) : Bool := decide ((bl s)[k]? = some 47) && dH ps (s.extract 0 k)
def mW (fs : List Fl) : Prop := ∃ f ∈ fs, ∃ j, j < f.1.size /\ eQ (fs.map Prod.fst) f.1 j = true
def TckR (fs : List Fl) (err : Int) : Prop :=
 (200 < fs.length /\ err = 4) ∨ (fs.length <= 200 /\ dB none fs ≠ 0 /\ err = dB none fs) ∨ (fs.length <= 200 /\ dB none fs = 0 /\ ((mW fs /\ err = 7) ∨ (¬ mW fs /\ err = 0)))
theorem TckR.same {fs : List Fl} {e f : Int} (h : TckR fs e) (g : TckR fs f) : e = f := by
 rcases h with ⟨h1, h2⟩ | ⟨h1, h2, h3⟩ | ⟨h1, h2, h3⟩
 . rcases g with ⟨_, g2⟩ | ⟨g1, _⟩ | ⟨g1, _⟩
   . rw [h2, g2]
   . omega
   . omega
 . rcases g with ⟨g1, _⟩ | ⟨_, _, g3⟩ | ⟨_, g2, _⟩
   . omega
   . rw [h3, g3]
   . exact absurd g2 h2
 . rcases g with ⟨g1, _⟩ | ⟨_, g2, _⟩ | ⟨_, _, g3⟩
   . omega
   . exact absurd h2 g2
   . rcases h3 with ⟨h3, h4⟩ | ⟨h3, h4⟩
     . rcases g3 with ⟨_, g4⟩ | ⟨g3, _⟩
       . rw [h4, g4]
       . exact absurd h3 g3
     . rcases g3 with ⟨g3, _⟩ | ⟨_, g4⟩
       . exact absurd g3 h3
       . rw [h4, g4]
theorem Aw (A : OA) (n c B : Nat) (fs : List Fl) (w : World) (h0 : Sl w B 2 A n (flat flC fs)) (hB : B <= w.heap.size) (hn : n <= 1000000) (hsz : ∀ f ∈ fs, f.1.size <= 1000000 /\ f.2.size <= 60000) :
  Calls Tryz.prog 69 #[.slice A n c] w fun e w' => ∃ err, e = .returned (.int .i64 err) /\ TckR fs err /\ Below w.heap.size w w' := by
 have HL := ah (h0.len pO (by omega)); have H0 := ah h0; have HSZ := ah hsz; clear h0 hsz; have hmm := @run_makeMap Tryz.prog; have hzz := Tryz.zeroValue4
 go_enter Tryz.func69, Tryz.ntmps69
 by_cases hbig : (200 : Int) < (n : Int)
 . have HE : Hid (TckR fs 4) := .inl ⟨by rw [HL.out]; omega, rfl⟩
   go_wp2_with fail; go_ret
   exact ⟨4, rfl, HE.out, Below.refl _ _⟩
 have hsm : n <= 200 := by omega
 have HM0 : Hid (Rm (w.alloc (.map #[] 0)) Tryz.prog 9 w.heap.size 0 (pG ((fs.take 0).map Prod.fst))) := by
  show Rm _ _ _ _ _ (pG []); rw [E9]; exact Rm.made w Tryz.prog 9
 obtain ⟨r, hr⟩ : ∃ r, dB none fs = r := ⟨_, rfl⟩
 have HR := ah hr; clear hr; go_wp2_with fail
 go_loopw [15] (fun i wr => ∃ k : Nat, k <= n /\ i = .int .i64 k /\ Hid (Rm wr Tryz.prog 9 w.heap.size k (pG ((fs.take k).map Prod.fst))) /\ Hid (r = dB (eO fs k) (fs.drop k)) /\ Hid (Below w.heap.size w wr) /\ w.heap.size < wr.heap.size) (fun i _ => n - (intOf i).toNat)
 case atStart => exact ⟨0, Nat.zero_le _, rfl, HM0.out, HR.out.symm, (Below.refl _ w).alloc ai _, by simp⟩
 case round =>
  obtain ⟨k, hk, rfl, hM, hC, hBel, hwz⟩ := hrel; by_cases hlt : k < n
  . obtain ⟨b, off, f, rfl, hbB, hf, y0, y1⟩ := (H0.out.below hBel.out hB).fl hlt
    have hlz : (k : Int) < (n : Int) := by omega
    have HF := ah hf; have hfs := HSZ.out f (List.mem_of_getElem? hf); have hfm : f.1.size <= maxLen := by unfold maxLen; omega
    have HC := hC; rw [DW hf] at HC; obtain ⟨W2, hW2⟩ : ∃ W2, wr.alloc (.cells #[.string f.1, .string f.2] 94) = W2 := ⟨_, rfl⟩
    have HK2 : Hid (Bk W2 wr.heap.size 94 #[.string f.1, .string f.2]) := by rw [<- hW2]; exact Bk.new wr _ _
    have zW2 : W2.heap.size = wr.heap.size + 1 := by rw [<- hW2]; simp
    have HB2 : Hid (Below wr.heap.size wr W2) := by rw [<- hW2]; exact (Below.refl _ wr).alloc ai _
    have HPT := ah (AQ f.1 W2 hfm); have x0 := HK2.out.cell 0; simp at x0; have HTK := ah (bA hf); clear hf
    go_wp2_with (go_at_call 104; refine HPT.out.mono ?_; rintro e w3 ⟨rfl, hb3⟩; refine aI ?_)
    refine aC ?_; have HB3 : Hid (Below wr.heap.size wr w3) := HB2.out.trans (hb3.mono (by omega)); have HK3 := ah (HK2.out.below hb3 (by omega)); have hz3 := hb3.size; have x0 := HK3.out.cell 0; have x1 := HK3.out.cell 1; simp at x0 x1; clear hb3 HPT hW2; cases hp : cZ f.1 with
    | false =>
      have HE : Hid (TckR fs 6) := .inr (.inl ⟨by rw [HL.out]; omega, by rw [HR.out, HC.out, hp]; simp, by rw [HR.out, HC.out, hp]; simp⟩); clear hp; go_wp2_with fail; go_ret
      exact ⟨6, rfl, HE.out, hBel.out.trans (HB3.out.mono (by omega))⟩
    | true =>
      rw [hp, if_pos rfl] at HC; have HBL := ah (vk f.2 w3); clear hp
      go_wp2_with (go_at_call 105; refine HBL.out.mono ?_; rintro e w4 ⟨rfl, hb4⟩; refine aI ?_)
      refine aC ?_; have HOC := ah (Ar f.2 w4 hfs.2); have HK4 := ah (HK3.out.below hb4 (by omega)); have HB4 : Hid (Below wr.heap.size wr w4) := HB3.out.trans (hb4.mono (by omega)); have hz4 := hb4.size; clear hb4 HBL x0 x1
      go_wp2_with (go_at_call 62; refine HOC.out.mono ?_; rintro e w5 ⟨rfl, hb5⟩; refine aI ?_)
      refine aC ?_; have HK5 := ah (HK4.out.below hb5 (by omega)); have HB5 : Hid (Below wr.heap.size wr w5) := HB4.out.trans (hb5.mono (by omega)); have hz5 := hb5.size; clear hb5 HOC; obtain ⟨q5, hq5⟩ : ∃ q5 : Nat, q5 = 0 := ⟨0, rfl⟩
      cases k with
      | zero =>
        have HN : Hid (r = dB (eO fs 1) (fs.drop 1)) := by
         show _ = _; rw [HC.out, if_pos]; simp [eO, upB]
        have HM5 := ah (hM.out.below HB5.out hwz); clear HC hC; go_wp2_with fail
        go_quiet (fail)
        have HK6 := ah (HK5.out.drewN nq); have HM6 : Hid (Rm (w5.drewN nq) Tryz.prog 9 w.heap.size 0 (pG ((fs.take 0).map Prod.fst))) := HM5.out.below (aM (Below.refl _ w5) nq) (by omega); have HB6 : Hid (Below wr.heap.size wr (w5.drewN nq)) := aM HB5.out nq; have x0 := HK6.out.cell 0; simp at x0
        go_wp2_with (at_mapUpdate; refine aI ?_)
        refine aC ?_; refine kC rfl _ _ _ 162 rfl 9 4 Tryz.underlying9 Tryz.underlying162 w.heap.size 0 _ rfl HM6.out (by unfold maxLen; omega) f.1 hfm _ rfl rfl ?_; intro w7 hM7 hg7
        replace hM7 : Rm w7 Tryz.prog 9 w.heap.size (0 + 1) (upd (pG ((fs.take 0).map Prod.fst)) f.1 (.bool true)) := hM7
        rw [<- wH] at hM7; have HM7 : Hid (Rm w7 Tryz.prog 9 w.heap.size (0 + 1) (pG ((fs.take (0 + 1)).map Prod.fst))) := by show Rm _ _ _ _ _ _; rw [HTK.out, List.map_append]; exact hM7
        have HB7 : Hid (Below w.heap.size w w7) := (hBel.out.trans (HB6.out.mono (by omega))).grown hg7 (by have := HB6.out.size; omega) (fun q e => by cases e; omega); have hz7 := hg7.size; have hz6 : wr.heap.size <= (w5.drewN nq).heap.size := HB6.out.size; clear hM7 hg7 x0; go_wp2_with fail; go_roundw
        case rel => exact ⟨0 + 1, by omega, by go_num, HM7.out, HN.out, HB7.out, by omega⟩
        case measure => simp [intOf]; omega
      | succ k =>
        have HM5 := ah (hM.out.below HB5.out hwz); have hBe5 : Below w.heap.size w w5 := hBel.out.trans (HB5.out.mono (by omega)); obtain ⟨b', off', p, hbe, _, hpp, p0, _⟩ := (H0.out.below hBe5 hB).fl (show k < n by omega); cases hbe
        obtain ⟨le, hle⟩ : ∃ le, (Op.bytesLess f.1.toList p.1.toList || f.1.toList == p.1.toList) = le := ⟨_, rfl⟩
        have hls := zU hle; have hpv : eO fs (k + 1) = some p.1 := by unfold eO; rw [if_neg (by omega), Nat.add_sub_cancel, hpp]; rfl
        rw [hpv, upB] at HC; have hg0 : decide ((0 : Int) < ((k + 1 : Nat) : Int)) = true := by rw [decide_eq_true_iff]; omega
        have x5 := HK5.out.cell 0; simp at x5; clear hpp hpv hC hBe5; rw [hls] at HC; clear hls; cases le with
        | false =>
          have HN : Hid (r = dB (eO fs (k + 1 + 1)) (fs.drop (k + 1 + 1))) := by show _ = _; rw [HC.out, if_pos (by decide)]
          clear HC; go_wp2_with fail
          go_quiet (fail)
          clear x5 p0 hle; have HK6 := ah (HK5.out.drewN nq); have HM6 : Hid (Rm (w5.drewN nq) Tryz.prog 9 w.heap.size (k + 1) (pG ((fs.take (k + 1)).map Prod.fst))) := HM5.out.below (aM (Below.refl _ w5) nq) (by omega); have HB6 : Hid (Below wr.heap.size wr (w5.drewN nq)) := aM HB5.out nq; have x0 := HK6.out.cell 0; simp at x0
          go_wp2_with (at_mapUpdate; refine aI ?_)
          refine aC ?_; refine kC rfl _ _ _ 162 rfl 9 4 Tryz.underlying9 Tryz.underlying162 w.heap.size (k + 1) _ rfl HM6.out (by unfold maxLen; omega) f.1 hfm _ rfl rfl ?_; intro w7 hM7 hg7
          replace hM7 : Rm w7 Tryz.prog 9 w.heap.size ((k + 1) + 1) (upd (pG ((fs.take (k + 1)).map Prod.fst)) f.1 (.bool true)) := hM7
          rw [<- wH] at hM7; have HM7 : Hid (Rm w7 Tryz.prog 9 w.heap.size ((k + 1) + 1) (pG ((fs.take ((k + 1) + 1)).map Prod.fst))) := by show Rm _ _ _ _ _ _; rw [HTK.out, List.map_append]; exact hM7
          have HB7 : Hid (Below w.heap.size w w7) := (hBel.out.trans (HB6.out.mono (by omega))).grown hg7 (by have := HB6.out.size; omega) (fun q e => by cases e; omega); have hz7 := hg7.size; have hz6 : wr.heap.size <= (w5.drewN nq).heap.size := HB6.out.size; clear hM7 hg7 x0; go_wp2_with fail; go_roundw
          case rel => exact ⟨(k + 1) + 1, by omega, by go_num, HM7.out, HN.out, HB7.out, by omega⟩
          case measure => simp [intOf]; omega
        | true =>
          have HE : Hid (TckR fs 10) := .inr (.inl ⟨by rw [HL.out]; omega, by rw [HR.out, HC.out]; simp, by rw [HR.out, HC.out]; simp⟩); clear HC; go_wp2_with fail
          go_quiet (fail)
          go_wp2_with fail; go_ret
          exact ⟨10, rfl, HE.out, hBel.out.trans (aM (HB5.out.mono (by omega)) _)⟩
  . have hlz : ¬ (k : Int) < (n : Int) := by omega
    have HZ : Hid (dB none fs = 0) := by
     show _ = _; rw [HR.out, hC.out, List.drop_of_length_le (by rw [HL.out]; omega)]; rfl
    have HMP : Hid (Rm wr Tryz.prog 9 w.heap.size k (pG (fs.map Prod.fst))) := by
     have h1 := hM.out; rw [List.take_of_length_le (by rw [HL.out]; omega)] at h1; exact h1
    have HBE := ah hBel.out; obtain ⟨we, hwe⟩ : ∃ we, we = wr := ⟨_, rfl⟩
    subst hwe; clear hM hC hBel; go_wp2_with fail
    go_loopw [51] (fun i wr => ∃ j : Nat, j <= n /\ i = .int .i64 j /\ Hid (∀ f ∈ fs.take j, ∀ q, q < f.1.size -> eQ (fs.map Prod.fst) f.1 q = false) /\ Hid (Below we.heap.size we wr)) (fun i _ => n - (intOf i).toNat)
    case atStart => exact ⟨0, Nat.zero_le _, rfl, fun f hf => by simp at hf, Below.refl _ _⟩
    case round =>
     obtain ⟨j, hj, rfl, hNo, hBj⟩ := hrel; have hwj := hBj.out.size; by_cases hjn : j < n
     . have hBw2 : Below w.heap.size w wr := HBE.out.trans (hBj.out.mono (by omega))
       obtain ⟨b, off, f, rfl, hbB, hf, y0, y1⟩ := (H0.out.below hBw2 hB).fl hjn; have hjz : (j : Int) < (n : Int) := by omega
       have HF := ah hf; have hfs := HSZ.out f (List.mem_of_getElem? hf); obtain ⟨W2, hW2⟩ : ∃ W2, wr.alloc (.cells #[.string f.1, .string f.2] 94) = W2 := ⟨_, rfl⟩
       have HK2 : Hid (Bk W2 wr.heap.size 94 #[.string f.1, .string f.2]) := by rw [<- hW2]; exact Bk.new wr _ _
       have HB2 : Hid (Below we.heap.size we W2) := by rw [<- hW2]; exact hBj.out.alloc hwj _
       have HM2 := ah (HMP.out.below HB2.out hwz); have x0 := HK2.out.cell 0; simp at x0; obtain ⟨wm, hwm⟩ : ∃ wm, wm = wr := ⟨_, rfl⟩
       subst hwm; clear hf hBw2; go_wp2_with fail; clear hW2
       go_loopw [58] (fun i wr => ∃ q : Nat, q <= f.1.size /\ i = .int .i64 q /\ Hid (∀ m, m < q -> eQ (fs.map Prod.fst) f.1 m = false) /\ wr = W2) (fun i _ => f.1.size - (intOf i).toNat)
       case atStart => exact ⟨0, Nat.zero_le _, rfl, fun m hm => absurd hm (by omega), rfl⟩
       case round =>
        obtain ⟨q, hq, rfl, hNq, rfl⟩ := hrel; by_cases hqs : q < f.1.size
        . have hqz : (q : Int) < (f.1.size : Int) := by omega
          have hql : (q : Int) <= (f.1.size : Int) := by omega
          have hxs : (f.1.extract 0 q).size <= maxLen := by simp; unfold maxLen; omega
          have hg := oD f.1 q hqs; have HG : Hid ((bl f.1)[q]? = some f.1[q]) := hg; have hlk := HM2.out.look Tryz.underlying9 Tryz.underlying162 (hzz _) hxs; rw [Fx] at hlk; clear hg; by_cases h47 : f.1[q] = 47
          . have t1 : (((f.1[q].toNat : Nat) : Int) == 47) = true := by simp [h47]
            cases hm : dH (fs.map Prod.fst) (f.1.extract 0 q) with
            | true =>
              have HE : Hid (TckR fs 7) := .inr (.inr ⟨by rw [HL.out]; omega, HZ.out, .inl ⟨⟨f, List.mem_of_getElem? HF.out, q, hqs, by unfold eQ; rw [HG.out, h47, hm]; rfl⟩, rfl⟩⟩); rw [hm] at hlk; clear hm h47; go_wp2_with fail; go_ret
              exact ⟨7, rfl, HE.out, HBE.out.trans (HB2.out.mono (by omega))⟩
            | false =>
              have HN2 : Hid (∀ m, m < q + 1 -> eQ (fs.map Prod.fst) f.1 m = false) := fun m hm' => by
               by_cases e : m = q
               . subst e; unfold eQ; rw [hm]; simp
               . exact hNq.out m (by omega)
              rw [hm] at hlk; clear hm h47 hNq; go_wp2_with fail; go_roundw
              case rel => exact ⟨q + 1, hqs, by go_num, HN2.out, trivial⟩
              case measure => simp [intOf]; omega
          . have t1 : (((f.1[q].toNat : Nat) : Int) == 47) = false := by
              rw [beq_eq_false_iff_ne]; intro e; apply h47
              apply UInt8.toNat_inj.1
              show f.1[q].toNat = 47; omega
            have HN2 : Hid (∀ m, m < q + 1 -> eQ (fs.map Prod.fst) f.1 m = false) := fun m hm' => by
             by_cases e : m = q
             . subst e; unfold eQ; rw [HG.out, decide_eq_false (fun e => h47 (Option.some.inj e)), Bool.false_and]
             . exact hNq.out m (by omega)
            clear h47 hNq; go_wp2_with fail; go_roundw
            case rel => exact ⟨q + 1, hqs, by go_num, HN2.out, trivial⟩
            case measure => simp [intOf]; omega
        . have hqz : ¬ (q : Int) < (f.1.size : Int) := by omega
          have HN3 : Hid (∀ g ∈ fs.take (j + 1), ∀ q, q < g.1.size -> eQ (fs.map Prod.fst) g.1 q = false) := fun g hg => by
           rw [bA HF.out] at hg; rcases List.mem_append.1 hg with hg | hg
           . exact hNo.out g hg
           . rw [List.mem_singleton.1 hg]; exact fun m hm => hNq.out m (by omega)
          clear hNq hNo; go_wp2_with fail; go_roundw
          case rel => exact ⟨j + 1, hjn, by go_num, HN3.out, HB2.out⟩
          case measure => simp [intOf]; omega
     . have hjz : ¬ (j : Int) < (n : Int) := by omega
       have HE : Hid (TckR fs 0) := .inr (.inr ⟨by rw [HL.out]; omega, HZ.out, .inr ⟨(fun h => by
        obtain ⟨f, hf, q, hq, hd⟩ := h; have := hNo.out f (by rw [List.take_of_length_le (by rw [HL.out]; omega)]; exact hf) q hq; rw [this] at hd; cases hd), rfl⟩⟩)
       clear hNo; go_wp2_with fail; go_ret
       exact ⟨0, rfl, HE.out, HBE.out.trans (hBj.out.mono (by omega))⟩
end
section
open Go.RowKit Go.Shelf
def fT (d p : ByteArray) : Bool := decide (d.size < p.size) && (decide (p.extract 0 d.size = d) && decide ((bl p)[d.size]? = some 47))
end
theorem tF (a b : Bytes) : ofL a ++ ofL b = ofL (a ++ b) := by
 apply ByteArray.ext
 simp [ofL]
theorem uU {vs : List Value} (h : vs.length = 9) : ∃ v0 v1 v2 v3 v4 v5 v6 v7 v8, vs = [v0, v1, v2, v3, v4, v5, v6, v7, v8] := by
 match vs, h with
 | [v0, v1, v2, v3, v4, v5, v6, v7, v8], _ => exact ⟨v0, v1, v2, v3, v4, v5, v6, v7, v8, rfl⟩
def qw (n : Nat) (i : Nat) (v : Value) (w : World) : Prop :=
 match i with
 | 0 => v = .int .i64 n
 | 1 => v = .int .i64 ((n : Int) % 128)
 | 2 => v = .int .i64 (128 + (n : Int) % 128)
 | 3 => v = .int .u8 (128 + (n : Int) % 128)
 | 4 => ∃ g, v = .slice (some ⟨g, 0, none⟩) 1 1 /\ g < w.heap.size /\ w.cell? ⟨g, 0, none⟩ = some (.int .u8 (128 + (n : Int) % 128))
 | 5 => v = .string (ofL [UInt8.ofNat (n % 128 + 128)])
 | 6 => v = .int .i64 n
 | 7 => v = .int .i64 ((n : Int) / 128)
 | _ => v = .string (ofL (aj (n / 128)))
theorem zN (n : Nat) (i : Nat) (v : Value) (w w' : World) (h : qw n i v w) (hb : Below w.heap.size w w') : qw n i v w' := by
 match i with
 | 0 => exact h
 | 1 => exact h
 | 2 => exact h
 | 3 => exact h
 | 4 =>
   obtain ⟨g, e, hg, hc⟩ := h; exact ⟨g, e, Nat.lt_of_lt_of_le hg hb.size, (hb.cell (p := ⟨g, 0, none⟩) hg).trans hc⟩
 | 5 => exact h
 | 6 => exact h
 | 7 => exact h
 | _ + 8 => exact h
theorem vV (n : Nat) : n <= 9223372036854775807 -> ∀ w : World, Calls Tryz.prog 168 #[.int .i64 n] w fun e w' => e = .returned (.string (ofL (aj n))) /\ Below w.heap.size w w' := by
 induction n using Nat.strongRecOn with
 | _ n ih =>
 intro hn w; have IH := ah ih; clear ih; by_cases hs : n < 128
 . have hsi : (n : Int) < 128 := by omega
   have HE := ah (bM hs); have hconv := run_convert_bytes_back (P := Tryz.prog) (w.alloc (.cells #[.int .u8 n] 5)) 178 9 5 ⟨w.heap.size, 0, none⟩ 1 [UInt8.ofNat n] Tryz.underlying178 Tryz.underlying5 Tryz.underlying9 (by
    intro j hj; simp at hj; subst hj; simp [Addr.add, eZ (n := n) (by omega)])
   simp only [List.length_cons, List.length_nil, Nat.zero_add] at hconv
   go_enter Tryz.func168, Tryz.ntmps168
   go_wp2
   go_ret
   exact ⟨by rw [HE.out]; rfl, (Below.refl _ _).alloc ai _⟩
 . have hsi : ¬ (n : Int) < 128 := by omega
   have HE := ah (iO hs)
   go_enter Tryz.func168, Tryz.ntmps168
   go_wp2_with fail; refine yG 9 [9, 10, 11, 12, 13, 14, 15, 16, 17] (by kernel_rfl) (by kernel_rfl) (by kernel_rfl) (fun W => Below w.heap.size w W) (fun W W' => Below W.heap.size W W')
    (qw n) (fun W W' h1 h2 => h1.trans (h2.mono h1.size)) (zN n) (Below.refl _ _).drew ?step ?tail
   case step =>
    intro i o vs W hi ho hv hR hphi; obtain ⟨v0, v1, v2, v3, v4, v5, v6, v7, v8, rfl⟩ := uU hv; simp only [List.zip, List.zipWith, aG, Act.put, List.setIfInBounds_toArray, List.set]; have h0 : (0 : Int) <= (n : Int) := by omega
    match i, hi, ho with
    | 0, _, rfl => exact ax (w' := W) (by go_simp) ⟨Below.refl _ _, rfl⟩
    | 1, _, rfl =>
      have e0 : v0 = _ := hphi ⟨0, .data⟩ (by simp) rfl v0 rfl; subst e0; exact ax (v := .int .i64 ((n : Int) % 128)) (w' := W) (by go_simp; exact Int.tmod_eq_emod_of_nonneg h0) ⟨Below.refl _ _, rfl⟩
    | 2, _, rfl =>
      have e0 : v1 = _ := hphi ⟨1, .data⟩ (by simp) rfl v1 rfl; subst e0; exact ax (v := .int .i64 (128 + (n : Int) % 128)) (w' := W) (by go_simp; exact IntWalk.i64_in _ (by omega)) ⟨Below.refl _ _, rfl⟩
    | 3, _, rfl =>
      have e0 : v2 = _ := hphi ⟨2, .data⟩ (by simp) rfl v2 rfl; subst e0; exact ax (v := .int .u8 (128 + (n : Int) % 128)) (w' := W) (by go_simp; exact IntWalk.u8_in _ (by omega)) ⟨Below.refl _ _, rfl⟩
    | 4, _, rfl =>
      have e0 : v3 = _ := hphi ⟨3, .data⟩ (by simp) rfl v3 rfl; subst e0; exact ax (v := .slice (some ⟨W.heap.size, 0, none⟩) 1 1) (w' := W.alloc (.cells #[.int .u8 (128 + (n : Int) % 128)] 5)) (by go_simp) ⟨(Below.refl _ _).alloc ai _, W.heap.size, rfl, by simp, by simp⟩
    | 5, _, rfl =>
      obtain ⟨g, e0, hg, hc⟩ : ∃ g, v4 = .slice (some ⟨g, 0, none⟩) 1 1 /\ g < W.heap.size /\ W.cell? ⟨g, 0, none⟩ = some (.int .u8 (128 + (n : Int) % 128)) := hphi ⟨4, .data⟩ (by simp) rfl v4 rfl; subst e0; have hconv := run_convert_bytes_back (P := Tryz.prog) W 178 9 5 ⟨g, 0, none⟩ 1 [UInt8.ofNat (n % 128 + 128)] Tryz.underlying178 Tryz.underlying5 Tryz.underlying9 (by
       intro j hj; simp at hj; subst hj; simp only [Addr.add, if_true, List.getElem_cons_zero, eZ (n := n % 128 + 128) (by omega)]; rw [hc]; congr 2; omega)
      simp only [List.length_cons, List.length_nil, Nat.zero_add] at hconv; exact ax (v := .string (ofL [UInt8.ofNat (n % 128 + 128)])) (w' := W) (by go_simp; rfl) ⟨Below.refl _ _, rfl⟩
    | 6, _, rfl => exact ax (w' := W) (by go_simp) ⟨Below.refl _ _, rfl⟩
    | 7, _, rfl =>
      have e0 : v6 = _ := hphi ⟨6, .data⟩ (by simp) rfl v6 rfl; subst e0; exact ax (v := .int .i64 ((n : Int) / 128)) (w' := W) (by go_simp; exact IntWalk.i64_in _ (by omega)) ⟨Below.refl _ _, rfl⟩
    | 8, _, rfl =>
      have e0 : v7 = _ := hphi ⟨7, .data⟩ (by simp) rfl v7 rfl; subst e0; refine bU (f := 168) (args := #[.int .i64 ((n / 128 : Nat) : Int)]) (by go_simp) ((IH.out (n / 128) (by omega) (by omega) W).mono ?_); rintro e W' ⟨rfl, hb⟩; exact ⟨_, rfl, hb, rfl⟩
   case tail =>
    intro vs W hv hR hphi; obtain ⟨v0, v1, v2, v3, v4, v5, v6, v7, v8, rfl⟩ := uU hv; simp only [List.zip, List.zipWith, aG, Act.put, List.setIfInBounds_toArray, List.set, List.drop]; have e5 : v5 = .string (ofL [UInt8.ofNat (n % 128 + 128)]) := hphi 5 v5 rfl; have e8 : v8 = .string (ofL (aj (n / 128))) := hphi 8 v8 rfl; subst e5 e8; have HR := ah hR; clear hphi hR; have hl1 : (ofL [UInt8.ofNat (n % 128 + 128)]).size = 1 := rfl; have hl2 : (ofL (aj (n / 128))).size <= 10 := by rw [bN]; exact bO 9 _ (by omega)
    have HF : Hid (ofL [UInt8.ofNat (n % 128 + 128)] ++ ofL (aj (n / 128)) = ofL (aj n)) := by
     show _ = _; rw [tF, HE.out]; rfl
    generalize ofL [UInt8.ofNat (n % 128 + 128)] = p at *; generalize ofL (aj (n / 128)) = q at *; have hsum : p.size + q.size <= 9223372036854775807 := by omega
    clear hl1 hl2
    go_wp2
    go_ret
    exact ⟨by rw [HF.out]; rfl, HR.out⟩
theorem y9 (n : Nat) (hn : n <= 1099511627776) (w : World) :
  Calls Tryz.prog 147 #[.int .i64 n] w fun e w' => e = .returned (.tuple #[.string (ofL (aj n)), .int .i64 0]) /\ Below w.heap.size w w' := by
 have h0 : ¬ (n : Int) < 0 := by omega
 have h1 : ¬ (1099511627776 : Int) < (n : Int) := by omega
 go_enter Tryz.func147, Tryz.ntmps147
 go_wp2_with fail; refine (vV n (by omega) _).mono ?_; rintro e w1 ⟨rfl, hb1⟩; have HB1 := ah hb1; clear hb1; go_wp2_with fail; go_ret2
 exact ⟨rfl, HB1.out⟩
theorem yX (s : ByteArray) (hs : s.size <= 65536) (w : World) :
  Calls Tryz.prog 148 #[.string s] w fun e w' => e = .returned (.tuple #[.string (ofL (au (toL s))), .int .i64 0]) /\ Below w.heap.size w w' := by
 have hsi : ¬ (65536 : Int) < (s.size : Int) := by omega
 go_enter Tryz.func148, Tryz.ntmps148
 go_wp2_with fail; refine (vV s.size (by omega) _).mono ?_; rintro e w1 ⟨rfl, hb1⟩; have HB1 := ah hb1; clear hb1; have hl2 : (ofL (aj s.size)).size <= 6 := by rw [bN]; exact bO 5 _ (by omega)
 have HF : Hid (ofL (aj s.size) ++ s = ofL (au (toL s))) := by
  show _ = _; unfold au; rw [<- bu, <- tF, fu]
 generalize ofL (aj s.size) = q at *; have hsum : q.size + s.size <= 9223372036854775807 := by omega
 go_wp2_with fail; go_ret2
 exact ⟨by rw [HF.out]; rfl, HB1.out⟩
section
open Go.RowKit Go.Shelf
theorem DL {fs : List Fl} {f g : Fl} (hf : f ∈ fs) (hg : g ∈ fs) (h : fT f.1 g.1 = true) : mW fs := by
 unfold fT at h; simp only [Bool.and_eq_true, decide_eq_true_eq] at h; obtain ⟨h1, h2, h3⟩ := h; refine ⟨g, hg, f.1.size, h1, ?_⟩; unfold eQ; rw [h2, decide_eq_true h3, Bool.true_and, jE]; exact List.mem_map_of_mem hf
theorem EE {fs : List Fl} (h : ∀ f ∈ fs, ∀ g ∈ fs, fT f.1 g.1 = false) : ¬ mW fs := by
 rintro ⟨g, hg, j, hj, hd⟩; unfold eQ at hd; rw [Bool.and_eq_true, decide_eq_true_eq, jE] at hd; obtain ⟨h1, h2⟩ := hd; obtain ⟨f, hf, e⟩ := List.mem_map.1 h2; have := h f hf g hg; have hs : f.1.size = j := by
  have := congrArg ByteArray.size e; rw [ByteArray.size_extract] at this; omega
 unfold fT at this; rw [hs, <- e, decide_eq_true hj, decide_eq_true h1] at this; simp at this
end
theorem tu : ∀ l : List UInt8, bC l < l.length -> l = l.take (bC l) ++ 47 :: l.drop (bC l + 1)
 | [], h => by simp at h
 | c :: r, h => by
   by_cases hc : c = 47
   . subst hc; simp [bC]
   . simp only [bC, if_neg hc] at h ⊢
     have := tu r (by simpa using h)
     simpa using this
theorem nI : ∀ l : List UInt8, ∀ c ∈ l.take (bC l), c ≠ 47
 | [], c, h => by simp at h
 | d :: r, c, h => by
   by_cases hd : d = 47
   . subst hd; simp [bC] at h
   . simp only [bC, if_neg hd, List.take_succ_cons, List.mem_cons] at h
     rcases h with rfl | h
     . exact hd
     . exact nI r c h
theorem gY (s : ByteArray) (a b : Nat) : bl (s.extract a b) = ((bl s).take b).drop a := by
 unfold bl; rw [kE, List.drop_take]
theorem dV (s : ByteArray) : (bl s).length = s.size := rfl
def gI (s : ByteArray) : ByteArray × ByteArray × Bool := if bC (bl s) < s.size then (s.extract 0 (bC (bl s)), s.extract (bC (bl s) + 1) s.size, true) else (s, ⟨#[]⟩, false)
def fsN (s : ByteArray) : ByteArray := (gI s).1
def rsN (s : ByteArray) : ByteArray := (gI s).2.1
def deN (s : ByteArray) : Bool := (gI s).2.2
theorem Eb {s a b : ByteArray} {m : Bool} (h : mX s a b m) : a = fsN s /\ b = rsN s /\ m = deN s := by
 unfold fsN rsN deN gI; rcases h with ⟨h, rfl, rfl, rfl⟩ | ⟨h, rfl, rfl, rfl⟩
 . rw [if_pos h]; exact ⟨rfl, rfl, rfl⟩
 . rw [if_neg (by omega)]; exact ⟨rfl, rfl, rfl⟩
theorem gu {s : ByteArray} (h : deN s = true) : bl s = bl (fsN s) ++ 47 :: bl (rsN s) := by
 unfold deN fsN rsN gI at *; split at h
 . rename_i hl
   rw [if_pos hl]; simp only; rw [gY, gY, List.take_of_length_le (i := s.size) (by rw [dV]; exact Nat.le_refl _), List.drop_zero]; exact tu _ hl
 . cases h
theorem iL {s : ByteArray} (h : deN s = false) : fsN s = s := by
 unfold deN fsN gI at *; split at h
 . cases h
 . rename_i hl; rw [if_neg hl]
theorem oV (s : ByteArray) : yn (fsN s) := by
 unfold fsN gI; split
 . rename_i hl
   intro c hc; simp only at hc; rw [gY, List.drop_zero] at hc; exact nI _ c hc
 . rename_i hl
   intro c hc; simp only at hc; have : (bl s).take (bC (bl s)) = bl s := List.take_of_length_le (by rw [dV]; omega); rw [<- this] at hc; exact nI _ c hc
theorem ql {s : ByteArray} (hn : yn s) : fsN s = s /\ deN s = false := by
 have hd : deN s = false := by
  cases hd : deN s with
  | false => rfl
  | true =>
    have := gu hd; exact absurd rfl (hn 47 (by rw [this]; simp))
 exact ⟨iL hd, hd⟩
theorem kM (s : ByteArray) : cZ s = true ↔ s.size <= 100 /\ ∀ l ∈ aV (bl s), dz l = true := by
 unfold cZ; rw [Bool.and_eq_true, decide_eq_true_eq, List.all_eq_true]; rfl
theorem tN (s : ByteArray) : aV (bl s) = if deN s = true then bl (fsN s) :: aV (bl (rsN s)) else [bl s] := by
 rw [rV]; unfold deN fsN rsN gI; by_cases h : bC (bl s) < s.size
 . rw [if_pos (by rw [dV]; exact h), if_pos h]
   simp only; rw [if_pos trivial, gY, gY, List.take_of_length_le (i := s.size) (by rw [dV]; exact Nat.le_refl _), List.drop_zero]
 . rw [if_neg (by rw [dV]; exact h), if_neg h]
   simp
theorem nO {s : ByteArray} (h : cZ s = true) : aT (fsN s) = true := by
 have h2 := ((kM s).1 h).2; rw [tN] at h2; cases hd : deN s with
 | true => rw [hd, if_pos rfl] at h2; exact h2 _ (by simp)
 | false => rw [hd] at h2; rw [iL hd]; exact h2 _ (by simp)
theorem kN {s : ByteArray} (h : cZ s = true) (hd : deN s = true) : cZ (rsN s) = true /\ (rsN s).size < s.size := by
 have h1 := (kM s).1 h; have h2 := h1.2; rw [tN, hd, if_pos rfl] at h2; have hl := congrArg List.length (gu hd); simp only [List.length_append, List.length_cons] at hl; have hz : (rsN s).size < s.size := by rw [<- dV, <- dV]; omega
 exact ⟨(kM _).2 ⟨by omega, fun l hl => h2 l (by simp [hl])⟩, hz⟩
theorem kX {s : ByteArray} (h : cZ s = true) : s.size <= 100 := ((kM s).1 h).1
theorem oq (d p : ByteArray) : fT d p = true ↔ ∃ r, bl p = bl d ++ 47 :: r := by
 unfold fT; simp only [Bool.and_eq_true, decide_eq_true_eq]; constructor
 . rintro ⟨h1, h2, h3⟩
   refine ⟨(bl p).drop (d.size + 1), ?_⟩; have hk := List.getElem?_eq_some_iff.1 h3; have e : bl d = (bl p).take d.size := by rw [<- h2, gY, List.drop_zero, h2]
   rw [e, <- hk.2, <- List.drop_eq_getElem_cons hk.1, List.take_append_drop]
 . rintro ⟨r, h⟩
   have hl := congrArg List.length h; simp only [List.length_append, List.length_cons, dV] at hl; refine ⟨by omega, ?_, ?_⟩
   . apply xJ
     rw [gY, h, List.drop_zero, List.take_append_of_le_length (by rw [dV]; exact Nat.le_refl _), List.take_of_length_le (by rw [dV]; exact Nat.le_refl _)]
   . rw [h, List.getElem?_append_right (by rw [dV]; exact Nat.le_refl _), dV]; simp
structure OkL (l : List Fl) : Prop where
 path : ∀ f ∈ l, cZ f.1 = true
 data : ∀ f ∈ l, f.2.size <= 60000
 few : l.length <= 200
 nod : (l.map Prod.fst).Nodup
 nob : ∀ f ∈ l, ∀ g ∈ l, fT f.1 g.1 = false
def inD (l : List Fl) (n : ByteArray) : List Fl := (l.filter (fun f => deN f.1 && decide (fsN f.1 = n))).map (fun f => (rsN f.1, f.2))
theorem mem_inD {l : List Fl} {n : ByteArray} {f : Fl} : f ∈ inD l n ↔ ∃ g ∈ l, deN g.1 = true /\ fsN g.1 = n /\ f = (rsN g.1, g.2) := by
 unfold inD; rw [List.mem_map]; constructor
 . rintro ⟨g, hg, rfl⟩
   rw [List.mem_filter, Bool.and_eq_true, decide_eq_true_eq] at hg; exact ⟨g, hg.1, hg.2.1, hg.2.2, rfl⟩
 . rintro ⟨g, hg, h1, h2, rfl⟩
   exact ⟨g, by rw [List.mem_filter, Bool.and_eq_true, decide_eq_true_eq]; exact ⟨hg, h1, h2⟩, rfl⟩
theorem EY {s t : ByteArray} (hs : deN s = true) (ht : deN t = true) (h1 : fsN s = fsN t) (h2 : rsN s = rsN t) : s = t := by
 apply xJ
 rw [gu hs, gu ht, h1, h2]
theorem wK (l : List Fl) (n : ByteArray) : (inD l n).length <= l.length := by
 unfold inD; rw [List.length_map]; exact List.length_filter_le _ _
theorem OkL.sub {l : List Fl} (h : OkL l) (n : ByteArray) : OkL (inD l n) where
 path f hf := by
  obtain ⟨g, hg, h1, _, rfl⟩ := mem_inD.1 hf; exact (kN (h.path g hg) h1).1
 data f hf := by
  obtain ⟨g, hg, _, _, rfl⟩ := mem_inD.1 hf; exact h.data g hg
 few := Nat.le_trans (wK l n) h.few
 nod := by
  unfold inD; rw [List.map_map]; have h1 : (l.filter (fun f => deN f.1 && decide (fsN f.1 = n))).Pairwise (fun a b => a.1 ≠ b.1) := by
   have := h.nod; unfold List.Nodup at this; rw [List.pairwise_map] at this; exact this.filter _
  unfold List.Nodup; rw [List.pairwise_map]; refine h1.imp_of_mem ?_; intro a b ha hb hab he; rw [List.mem_filter, Bool.and_eq_true, decide_eq_true_eq] at ha hb; exact hab (EY ha.2.1 hb.2.1 (ha.2.2.trans hb.2.2.symm) he)
 nob f hf g hg := by
  obtain ⟨f', hf', h1, h2, rfl⟩ := mem_inD.1 hf; obtain ⟨g', hg', h3, h4, rfl⟩ := mem_inD.1 hg; rw [Bool.eq_false_iff]; intro hb; obtain ⟨r, hr⟩ := (oq _ _).1 hb; have := h.nob f' hf' g' hg'; rw [Bool.eq_false_iff] at this; refine this ((oq _ _).2 ⟨r, ?_⟩); rw [gu h1, gu h3, h2, h4, hr]; simp
def aU (l : List Fl) : List ByteArray := l.foldl (fun a f => dh a (fsN f.1)) []
theorem wM (l : List Fl) : ∀ a : List ByteArray, Asc a -> Asc (l.foldl (fun a f => dh a (fsN f.1)) a) /\ ∀ x, x ∈ l.foldl (fun a f => dh a (fsN f.1)) a ↔ x ∈ a ∨ ∃ f ∈ l, x = fsN f.1 := by
 induction l with
 | nil => intro a h; exact ⟨h, fun x => by simp⟩
 | cons f l ih =>
   intro a h; rw [List.foldl_cons]; obtain ⟨h1, h2⟩ := ih (dh a (fsN f.1)) (uR _ h); refine ⟨h1, fun x => ?_⟩; rw [h2, og]; simp only [List.mem_cons]; constructor
   . rintro ((h | h) | ⟨g, hg, h⟩)
     . exact .inl h
     . exact .inr ⟨f, .inl rfl, h⟩
     . exact .inr ⟨g, .inr hg, h⟩
   . rintro (h | ⟨g, rfl | hg, h⟩)
     . exact .inl (.inl h)
     . exact .inl (.inr h)
     . exact .inr ⟨g, hg, h⟩
theorem lV (l : List Fl) : Asc (aU l) := (wM l [] List.Pairwise.nil).1
theorem nms_mem {l : List Fl} {x : ByteArray} : x ∈ aU l ↔ ∃ f ∈ l, x = fsN f.1 := by
 unfold aU; rw [(wM l [] List.Pairwise.nil).2 x]; simp
theorem Di (a : List ByteArray) (s : ByteArray) : (dh a s).length <= a.length + 1 := by
 by_cases h : a[dC a s]? = some s
 . rw [uY h]; omega
 . rw [uP h]; simp; omega
theorem wL (l : List Fl) : (aU l).length <= l.length := by
 have : ∀ (l : List Fl) (a : List ByteArray), (l.foldl (fun a f => dh a (fsN f.1)) a).length <= a.length + l.length := by
  intro l
  induction l with
  | nil => intro a; simp
  | cons f l ih => intro a; rw [List.foldl_cons]; have := ih (dh a (fsN f.1)); have := Di a (fsN f.1); simp only [List.length_cons]; omega
 have := this l []
 simpa [aU] using this
def bR (l : List Fl) (n : ByteArray) : Option ByteArray := (l.find? (fun f => decide (f.1 = n))).map Prod.snd
theorem iA {l : List Fl} (hn : (l.map Prod.fst).Nodup) {n s : ByteArray} : bR l n = some s ↔ (n, s) ∈ l := by
 unfold bR
 induction l with
 | nil => simp
 | cons f l ih =>
   rw [List.map_cons, List.nodup_cons] at hn; by_cases e : f.1 = n
   . rw [List.find?_cons_of_pos (by simpa using e)]
     simp only [Option.map_some, Option.some.injEq, List.mem_cons]; constructor
     . rintro rfl; left; rw [<- e]
     . rintro (h | h)
       . rw [<- h]
       . exact absurd (List.mem_map_of_mem (f := Prod.fst) h) (by rw [<- e] ; exact hn.1)
   . rw [List.find?_cons_of_neg (by simpa using e), ih hn.2, List.mem_cons]
     exact ⟨.inr, fun h => h.resolve_left (fun h => e (by rw [<- h]))⟩
theorem look9_none {l : List Fl} {n : ByteArray} : bR l n = none ↔ ∀ f ∈ l, f.1 ≠ n := by
 unfold bR; rw [Option.map_eq_none_iff, List.find?_eq_none]; simp
def bP (s : ByteArray) : Ob := ⟨1, s, [], zD, [], ⟨#[]⟩, 0, ⟨#[]⟩⟩
def bI (es : List Ent) : Ob := ⟨2, ⟨#[]⟩, es, zD, [], ⟨#[]⟩, 0, ⟨#[]⟩⟩
theorem uS (k : Int) (d : ByteArray) (es : List Ent) : NoC ⟨k, d, es, zD, [], ⟨#[]⟩, 0, ⟨#[]⟩⟩ := ⟨rfl, rfl, rfl, rfl, rfl⟩
theorem jB {s : ByteArray} (h : s.size <= 60000) : OkO (bP s) where
 f := .blob (.inl rfl) rfl (uS _ _ _) (by show s.size <= _; omega)
 len := by
  show (aj 1 ++ au (toL s)).length <= 65536; unfold au; rw [bu] at h; have h1 := bO 5 1 (by omega); have h2 := bO 5 (toL s).length (by omega); simp only [List.length_append]; omega
theorem uA : ∀ {es : List Ent}, (∀ e ∈ es, dM e) -> (es.flatMap aH).length <= 52 * es.length
 | [], _ => by simp
 | e :: es, h => by
   have ih := uA (es := es) (fun x hx => h x (by simp [hx])); have hn := dw (h e (by simp)).nm; rw [bu] at hn; have h1 := bO 5 (toL e.nm).length (by omega); have h2 := bO 5 (if e.dir = true then 1 else 0) (by split <;> omega); rw [List.flatMap_cons, List.length_append, List.length_cons]; have : (aH e).length <= 52 := by
    unfold aH au; simp only [List.length_append, dU]; omega
   omega
theorem kL {es : List Ent} (h : dP es) : OkO (bI es) where
 f := .tree rfl rfl (uS _ _ _) h
 len := by
  show (aj 2 ++ bW (bI es)).length <= 65536; have h1 := bO 5 2 (by omega); have h2 := bO 5 es.length (by have := h.few; omega); have h3 := uA h.all; have h4 := h.few; have : bW (bI es) = aj es.length ++ es.flatMap aH := by unfold bW; exact if_pos rfl
  rw [this]; simp only [List.length_append]; omega
theorem wB (x : Int) : 0 <= IntKind.u64.wrap x /\ IntKind.u64.wrap x < 18446744073709551616 := by
 have e : IntKind.u64.wrap x = x % 18446744073709551616 := rfl; rw [e]; omega
theorem vX {g : Int -> Int -> Int} (hg : ∀ a b, 0 <= g a b /\ g a b < 18446744073709551616) (l : Bytes) : 0 <= dgF g l /\ dgF g l < 18446744073709551616 := by
 unfold dgF; have : ∀ (l : Bytes) (z : Int), 0 <= z /\ z < 18446744073709551616 -> 0 <= l.foldl (fun h b => g h (IntKind.u64.wrap (b.toNat : Int))) z /\ l.foldl (fun h b => g h (IntKind.u64.wrap (b.toNat : Int))) z < 18446744073709551616 := by
  intro l
  induction l with
  | nil => intro z h; exact h
  | cons c l ih => intro z _; exact ih _ (hg _ _)
 exact this l _ ⟨by decide, by decide⟩
theorem dL (l : Bytes) : WfD (ofB l) := by
 have h1 := vX (g := dg1) (fun a b => wB _) l; have h2 := vX (g := dg2) (fun a b => wB _) l; unfold ofB WfD; split
 . exact ⟨by decide, by decide, by decide, by decide⟩
 . exact ⟨h1.1, h1.2, h2.1, h2.2⟩
theorem eF (l : Bytes) : ofB l ≠ zD := by
 unfold ofB zD; split
 . decide
 . rename_i h
   intro e; rw [Prod.mk.injEq] at e; exact h e
def wt (l : List Fl) : Nat := (l.map (fun f => f.1.size + 1)).sum
def jg (l : List Fl) (n : ByteArray) : List Fl := l.filter (fun f => decide (fsN f.1 = n))
def gP (l : List Fl) (ns : List ByteArray) : List Fl := l.filter (fun f => !dH ns (fsN f.1))
theorem gD (f : Fl) (l : List Fl) : wt (f :: l) = f.1.size + 1 + wt l := by simp [wt]
theorem nP (ns : List ByteArray) (n x : ByteArray) : dH (ns ++ [n]) x = (dH ns x || decide (x = n)) := by
 rw [Bool.eq_iff_iff, jE, Bool.or_eq_true, jE, List.mem_append, List.mem_singleton, decide_eq_true_eq]
theorem CS (l : List Fl) {ns : List ByteArray} {n : ByteArray} (hn : n ∉ ns) : wt (gP l ns) = wt (gP l (ns ++ [n])) + wt (jg l n) := by
 induction l with
 | nil => rfl
 | cons f l ih =>
   unfold gP jg at *; by_cases h2 : fsN f.1 = n
   . have h1 : dH ns (fsN f.1) = false := by rw [Bool.eq_false_iff]; intro h; exact hn (by rw [<- h2]; exact (jE _ _).1 h)
     rw [List.filter_cons_of_pos (by simp [h1]), List.filter_cons_of_neg (by rw [nP]; simp [h2]), List.filter_cons_of_pos (by simpa using h2), gD, gD, ih]; omega
   . cases h1 : dH ns (fsN f.1) with
     | true => rw [List.filter_cons_of_neg (by simp [h1]), List.filter_cons_of_neg (by rw [nP]; simp [h1]), List.filter_cons_of_neg (by simpa using h2), ih]
     | false => rw [List.filter_cons_of_pos (by simp [h1]), List.filter_cons_of_pos (by rw [nP]; simp [h1, h2]), List.filter_cons_of_neg (by simpa using h2), gD, gD, ih]; omega
theorem xE (l : List Fl) (n : ByteArray) : wt (inD l n) + (inD l n).length <= wt (jg l n) := by
 induction l with
 | nil => simp [inD, wt]
 | cons f l ih =>
   unfold inD jg at *; by_cases h2 : fsN f.1 = n
   . rw [List.filter_cons_of_pos (p := fun f : Fl => decide (fsN f.1 = n)) (by simpa using h2), gD]
     cases hd : deN f.1 with
     | true =>
       rw [List.filter_cons_of_pos (by simp [hd, h2]), List.map_cons, gD, List.length_cons]; have hl := congrArg List.length (gu hd); simp only [List.length_append, List.length_cons, dV] at hl; simp only; omega
     | false =>
       rw [List.filter_cons_of_neg (by simp [hd])]; omega
   . rw [List.filter_cons_of_neg (p := fun f : Fl => decide (fsN f.1 = n)) (by simpa using h2), List.filter_cons_of_neg (by simp [h2])]
     exact ih
theorem EZ {l : List Fl} {f : Fl} (h : f ∈ l) : 1 <= wt l := by
 induction l with
 | nil => cases h
 | cons g l ih => rw [gD]; omega
theorem Fe (l : List Fl) : wt (gP l []) = wt l := by
 unfold gP; rw [List.filter_eq_self.2 (fun f _ => by simp [dH])]
theorem FV {l : List Fl} {k : Nat} (h : ∀ f ∈ l, f.1.size <= k) : wt l <= (k + 1) * l.length := by
 induction l with
 | nil => simp [wt]
 | cons f l ih =>
   rw [gD, List.length_cons, Nat.mul_succ]; have := ih (fun g hg => h g (by simp [hg])); have := h f (by simp); omega
theorem uO {p q : List Itm} {o : Ob} (h : bB p o = some q) : q.length <= p.length + 1 := Cs h
noncomputable def bQ (g : List Itm -> List Fl -> Option (List Itm × Dig)) (l : List Fl) : List Itm -> List ByteArray -> List Ent -> Option (List Itm × List Ent)
 | p, [], es => some (p, es)
 | p, n :: r, es => match bR l n with
   | some s => match bB p (bP s) with
     | none => none
     | some q => bQ g l q r (es ++ [⟨n, false, dgO (bP s)⟩])
   | none => match g p (inD l n) with
     | none => none
     | some (q, d) => bQ g l q r (es ++ [⟨n, true, d⟩])
noncomputable def sto : Nat -> List Itm -> List Fl -> Option (List Itm × Dig)
 | 0, _, _ => none
 | k + 1, p, l => match bQ (sto k) l p (aU l) [] with
   | none => none
   | some (q, es) => match bB q (bI es) with
     | none => none
     | some r => some (r, dgO (bI es))
theorem kW {g : List Itm -> List Fl -> Option (List Itm × Dig)} {l : List Fl} {p q : List Itm} {n s : ByteArray} {r : List ByteArray} {es : List Ent} (h : bR l n = some s) (hp : bB p (bP s) = some q) :
  bQ g l p (n :: r) es = bQ g l q r (es ++ [⟨n, false, dgO (bP s)⟩]) := by rw [bQ, h]; simp only [hp]
theorem tH {g : List Itm -> List Fl -> Option (List Itm × Dig)} {l : List Fl} {p : List Itm} {n s : ByteArray} {r : List ByteArray} {es : List Ent} (h : bR l n = some s) (hp : bB p (bP s) = none) :
  bQ g l p (n :: r) es = none := by rw [bQ, h]; simp only [hp]
theorem oF {g : List Itm -> List Fl -> Option (List Itm × Dig)} {l : List Fl} {p q : List Itm} {d : Dig} {n : ByteArray} {r : List ByteArray} {es : List Ent} (h : bR l n = none) (hp : g p (inD l n) = some (q, d)) :
  bQ g l p (n :: r) es = bQ g l q r (es ++ [⟨n, true, d⟩]) := by rw [bQ, h]; simp only [hp]
theorem uJ {g : List Itm -> List Fl -> Option (List Itm × Dig)} {l : List Fl} {p : List Itm} {n : ByteArray} {r : List ByteArray} {es : List Ent} (h : bR l n = none) (hp : g p (inD l n) = none) :
  bQ g l p (n :: r) es = none := by rw [bQ, h]; simp only [hp]
structure StoAt (k : Nat) (l : List Fl) (p0 : List Itm) (j : Nat) (p : List Itm) (es : List Ent) : Prop where
 eq : bQ (sto k) l p0 (aU l) [] = bQ (sto k) l p ((aU l).drop j) es
 ok : PlOk p
 nm : es.map Ent.nm = (aU l).take j
 all : ∀ e ∈ es, dM e
 sub : subP p0 p
 len : p.length + wt (gP l ((aU l).take j)) <= p0.length + wt l
theorem StoAt.start {k : Nat} {l : List Fl} {p : List Itm} (h : PlOk p) : StoAt k l p 0 p [] := ⟨rfl, h, rfl, (fun e he => by cases he), subP.refl _, by rw [List.take_zero, Fe]; omega⟩
theorem oM {l : List Fl} {j : Nat} {n : ByteArray} (hn : (aU l)[j]? = some n) : wt (gP l ((aU l).take j)) = wt (gP l ((aU l).take (j + 1))) + wt (jg l n) := by
 rw [bA hn]; refine CS l ?_; intro hm; have hnd := (lV l).nodup; obtain ⟨i, hi, e⟩ := List.getElem_of_mem hm; rw [List.length_take] at hi; rw [List.getElem_take] at e; obtain ⟨h1, h2⟩ := List.getElem?_eq_some_iff.1 hn; exact List.pairwise_iff_getElem.1 hnd i j (by omega) h1 (by omega) (e.trans h2.symm)
theorem StoAt.drop {k : Nat} {l : List Fl} {p0 p : List Itm} {j : Nat} {es : List Ent} (h : StoAt k l p0 j p es) {n : ByteArray} (hn : (aU l)[j]? = some n) : bQ (sto k) l p0 (aU l) [] = bQ (sto k) l p (n :: (aU l).drop (j + 1)) es := by
 rw [h.eq, EL hn]
theorem qE {l : List Fl} (hl : OkL l) {j : Nat} {n : ByteArray} (hn : (aU l)[j]? = some n) : aT n = true := by
 obtain ⟨f, hf, rfl⟩ := nms_mem.1 (List.mem_of_getElem? hn); exact nO (hl.path f hf)
theorem StoAt.file {k : Nat} {l : List Fl} {p0 p q : List Itm} {j : Nat} {es : List Ent} (h : StoAt k l p0 j p es) (hl : OkL l) {n s : ByteArray} (hn : (aU l)[j]? = some n) (hs : bR l n = some s) (hp : bB p (bP s) = some q) :
  StoAt k l p0 (j + 1) q (es ++ [⟨n, false, dgO (bP s)⟩]) where
 eq := by rw [h.drop hn, kW hs hp]
 ok := gB h.ok (jB (hl.data _ ((iA hl.nod).1 hs))) hp
 nm := by rw [List.map_append, h.nm, bA hn]; rfl
 all e he := by
  rcases List.mem_append.1 he with he | he
  . exact h.all e he
  . rw [List.mem_singleton] at he; subst he
    exact ⟨qE hl hn, dL _, eF _⟩
 sub := h.sub.trans (lu h.ok hp)
 len := by
  have h1 := h.len; rw [oM hn] at h1; have h2 := uO hp; have hm := (iA hl.nod).1 hs; obtain ⟨f, _, e⟩ := nms_mem.1 (List.mem_of_getElem? hn); have h3 : 1 <= wt (jg l n) := EZ (f := (n, s)) (List.mem_filter.2 ⟨hm, by rw [decide_eq_true_eq]; show fsN n = n; rw [e]; exact (ql (oV _)).1⟩); omega
theorem StoAt.filex {k : Nat} {l : List Fl} {p0 p : List Itm} {j : Nat} {es : List Ent} (h : StoAt k l p0 j p es) {n s : ByteArray} (hn : (aU l)[j]? = some n) (hs : bR l n = some s) (hp : bB p (bP s) = none) :
  sto (k + 1) p0 l = none := by rw [sto, h.drop hn, tH hs hp]
structure kr (p q : List Itm) (d : Dig) (l : List Fl) : Prop where
 ok : PlOk q
 sub : subP p q
 wf : WfD d
 nz : d ≠ zD
 len : q.length <= p.length + wt l + 1
theorem StoAt.dir {k : Nat} {l : List Fl} {p0 p q : List Itm} {j : Nat} {es : List Ent} (h : StoAt k l p0 j p es) (hl : OkL l) {n : ByteArray} {d : Dig} (hn : (aU l)[j]? = some n) (hs : bR l n = none) (hp : sto k p (inD l n) = some (q, d)) (hr : kr p q d (inD l n)) (hne : inD l n ≠ []) :
  StoAt k l p0 (j + 1) q (es ++ [⟨n, true, d⟩]) where
 eq := by rw [h.drop hn, oF hs hp]
 ok := hr.ok
 nm := by rw [List.map_append, h.nm, bA hn]; rfl
 all e he := by
  rcases List.mem_append.1 he with he | he
  . exact h.all e he
  . rw [List.mem_singleton] at he; subst he
    exact ⟨qE hl hn, hr.wf, hr.nz⟩
 sub := h.sub.trans hr.sub
 len := by
  have h1 := h.len; rw [oM hn] at h1; have h2 := hr.len; have h3 := xE l n; have h4 : 0 < (inD l n).length := List.length_pos_iff.2 hne; omega
theorem StoAt.dirx {k : Nat} {l : List Fl} {p0 p : List Itm} {j : Nat} {es : List Ent} (h : StoAt k l p0 j p es) {n : ByteArray} (hn : (aU l)[j]? = some n) (hs : bR l n = none) (hp : sto k p (inD l n) = none) :
  sto (k + 1) p0 l = none := by rw [sto, h.drop hn, uJ hs hp]
theorem vI {es : List Ent} (h : Asc (es.map Ent.nm)) {j : Nat} {a b : Ent} (ha : es[j]? = some a) (hb : es[j + 1]? = some b) : less a.nm b.nm = true := by
 unfold Asc at h; rw [List.pairwise_map, List.pairwise_iff_getElem] at h; obtain ⟨h1, rfl⟩ := List.getElem?_eq_some_iff.1 ha; obtain ⟨h2, rfl⟩ := List.getElem?_eq_some_iff.1 hb; exact h j (j + 1) h1 h2 (by omega)
theorem StoAt.es {k : Nat} {l : List Fl} {p0 p : List Itm} {j : Nat} {es : List Ent} (h : StoAt k l p0 j p es) (hl : OkL l) : dP es where
 few := by
  have h1 := congrArg List.length h.nm; rw [List.length_map, List.length_take] at h1; have := wL l; have := hl.few; omega
 all := h.all
 asc j' a b ha hb := vI (by rw [h.nm]; exact (lV l).sublist (List.take_sublist _ _)) ha hb
theorem StoAt.done {k : Nat} {l : List Fl} {p0 p q : List Itm} {j : Nat} {es : List Ent} (h : StoAt k l p0 j p es) (hj : (aU l).length <= j) (hp : bB p (bI es) = some q) : sto (k + 1) p0 l = some (q, dgO (bI es)) := by
 rw [sto, h.eq, List.drop_of_length_le hj]; simp only [bQ, hp]
theorem StoAt.donex {k : Nat} {l : List Fl} {p0 p : List Itm} {j : Nat} {es : List Ent} (h : StoAt k l p0 j p es) (hj : (aU l).length <= j) (hp : bB p (bI es) = none) : sto (k + 1) p0 l = none := by
 rw [sto, h.eq, List.drop_of_length_le hj]; simp only [bQ, hp]
theorem StoAt.res {k : Nat} {l : List Fl} {p0 p q : List Itm} {j : Nat} {es : List Ent} (h : StoAt k l p0 j p es) (hl : OkL l) (hp : bB p (bI es) = some q) : kr p0 q (dgO (bI es)) l :=
 ⟨gB h.ok (kL (h.es hl)) hp, h.sub.trans (lu h.ok hp), dL _, eF _, by have := uO hp; have := h.len; omega⟩
theorem StoAt.elen {k : Nat} {l : List Fl} {p0 p : List Itm} {j : Nat} {es : List Ent} (h : StoAt k l p0 j p es) (hj : j <= (aU l).length) : es.length = j := by
 have := congrArg List.length h.nm; rw [List.length_map, List.length_take] at this; omega
theorem StoAt.plen {k : Nat} {l : List Fl} {p0 p : List Itm} {j : Nat} {es : List Ent} (h : StoAt k l p0 j p es) : p.length <= p0.length + wt l := by have := h.len; omega
theorem xz {l : List Fl} {n : ByteArray} (hn : n ∈ aU l) (h : bR l n = none) : inD l n ≠ [] := by
 obtain ⟨f, hf, rfl⟩ := nms_mem.1 hn; intro e; cases hd : deN f.1 with
 | true =>
   have : (rsN f.1, f.2) ∈ inD l (fsN f.1) := mem_inD.2 ⟨f, hf, hd, rfl, rfl⟩; rw [e] at this; cases this
 | false => exact look9_none.1 h f hf (iL hd).symm
def EntS (q : List Itm) (g : Dig -> List Fl -> Prop) (l : List Fl) (e : Ent) : Prop :=
 (e.dir = false /\ ∃ s, (e.nm, s) ∈ l /\ ay q e.dg = some (bP s)) ∨ (e.dir = true /\ inD l e.nm ≠ [] /\ (∀ f ∈ l, f.1 ≠ e.nm) /\ g e.dg (inD l e.nm))
def Std (q : List Itm) : Nat -> Dig -> List Fl -> Prop
 | 0, _, _ => False
 | k + 1, d, l => ∃ es, ay q d = some (bI es) /\ es.map Ent.nm = aU l /\ ∀ e ∈ es, EntS q (Std q k) l e
theorem EntS.mono {q q' : List Itm} {g g' : Dig -> List Fl -> Prop} {l : List Fl} {e : Ent} (hq : PlOk q) (hq' : PlOk q') (hs : subP q q') (hg : ∀ d l, g d l -> g' d l) (h : EntS q g l e) : EntS q' g' l e := by
 rcases h with ⟨h1, s, h2, h3⟩ | ⟨h1, h2, h3, h4⟩
 . exact .inl ⟨h1, s, h2, kU hq hq' hs h3⟩
 . exact .inr ⟨h1, h2, h3, hg _ _ h4⟩
theorem Std.mono {q q' : List Itm} (hq : PlOk q) (hq' : PlOk q') (hs : subP q q') : ∀ {k : Nat} {d : Dig} {l : List Fl}, Std q k d l -> Std q' k d l := by
 intro k
 induction k with
 | zero => intro d l h; exact h
 | succ k ih =>
   rintro d l ⟨es, h1, h2, h3⟩; exact ⟨es, kU hq hq' hs h1, h2, fun e he => (h3 e he).mono hq hq' hs (fun d l h => ih h)⟩
theorem Std.fuel {q : List Itm} : ∀ {k : Nat} {k' : Nat} {d : Dig} {l : List Fl}, OkL l -> Std q k d l -> (∀ f ∈ l, f.1.size < k') -> 1 <= k' -> Std q k' d l := by
 intro k
 induction k with
 | zero => intro k' d l _ h; exact h.elim
 | succ k ih =>
   rintro k' d l hl ⟨es, h1, h2, h3⟩ hk h0; obtain ⟨m, rfl⟩ : ∃ m, k' = m + 1 := ⟨k' - 1, by omega⟩
   refine ⟨es, h1, h2, fun e he => ?_⟩; rcases h3 e he with h | ⟨a, b, c, f⟩
   . exact .inl h
   . have hsz : ∀ x ∈ inD l e.nm, x.1.size < m := fun x hx => by
       obtain ⟨g, hg, g1, _, rfl⟩ := mem_inD.1 hx; have := (kN (hl.path g hg) g1).2; have := hk g hg; simp only; omega
     obtain ⟨x, hx⟩ := List.exists_mem_of_ne_nil _ b; exact .inr ⟨a, b, c, ih (hl.sub _) f hsz (by have := hsz x hx; omega)⟩
theorem Dm {k : Nat} (ih : ∀ (p : List Itm) (l : List Fl) (q : List Itm) (d : Dig), OkL l -> PlOk p -> sto k p l = some (q, d) -> Std q k d l /\ PlOk q /\ subP p q) {l : List Fl} (hl : OkL l) :
  ∀ (ns : List ByteArray) (p : List Itm) (es : List Ent) (q : List Itm) (es' : List Ent), PlOk p -> (∀ n ∈ ns, n ∈ aU l) -> bQ (sto k) l p ns es = some (q, es') -> PlOk q /\ subP p q /\ ∃ fs, es' = es ++ fs /\ fs.map Ent.nm = ns /\ ∀ e ∈ fs, EntS q (Std q k) l e := by
 intro ns
 induction ns with
 | nil =>
   intro p es q es' hp _ h; rw [bQ] at h; cases h
   exact ⟨hp, subP.refl _, [], by simp, rfl, fun e h => by cases h⟩
 | cons n r ihr =>
   intro p es q es' hp hns h; cases hk : bR l n with
   | some s =>
     have hm := (iA hl.nod).1 hk; cases hpp : bB p (bP s) with
     | none => rw [tH hk hpp] at h; cases h
     | some p1 =>
       rw [kW hk hpp] at h; have hob := jB (hl.data _ hm); have hp1 := gB hp hob hpp; obtain ⟨a, b, fs, c, d, e⟩ := ihr p1 _ q es' hp1 (fun m hm => hns m (by simp [hm])) h; refine ⟨a, (lu hp hpp).trans b, ⟨n, false, dgO (bP s)⟩ :: fs, by rw [c]; simp, by rw [List.map_cons, d], fun x hx => ?_⟩; rcases List.mem_cons.1 hx with rfl | hx
       . exact .inl ⟨rfl, s, hm, kU hp1 a b (uV hp hob hpp)⟩
       . exact e x hx
   | none =>
     cases hpp : sto k p (inD l n) with
     | none => rw [uJ hk hpp] at h; cases h
     | some pd =>
       obtain ⟨p1, d1⟩ := pd; rw [oF hk hpp] at h; obtain ⟨h1, hp1, hs1⟩ := ih p _ p1 d1 (hl.sub n) hp hpp; obtain ⟨a, b, fs, c, d, e⟩ := ihr p1 _ q es' hp1 (fun m hm => hns m (by simp [hm])) h; refine ⟨a, hs1.trans b, ⟨n, true, d1⟩ :: fs, by rw [c]; simp, by rw [List.map_cons, d], fun x hx => ?_⟩; rcases List.mem_cons.1 hx with rfl | hx
       . exact .inr ⟨rfl, xz (hns n (by simp)) hk, fun f hf e => look9_none.1 hk f hf e, h1.mono hp1 a b⟩
       . exact e x hx
theorem DY {es : List Ent} {l : List Fl} {q : List Itm} {g : Dig -> List Fl -> Prop} (hl : OkL l) (h2 : es.map Ent.nm = aU l) (h : ∀ e ∈ es, EntS q g l e) (hg : ∀ d l, g d l -> WfD d /\ d ≠ zD) (hq : PlOk q) : dP es where
 few := by
  have := congrArg List.length h2; rw [List.length_map] at this; have := wL l; have := hl.few; omega
 all e he := by
  have hn : e.nm ∈ aU l := by rw [<- h2]; exact List.mem_map_of_mem he
  obtain ⟨f, hf, e1⟩ := nms_mem.1 hn; have hnm : aT e.nm = true := by rw [e1]; exact nO (hl.path f hf)
  rcases h e he with ⟨_, s, _, c⟩ | ⟨_, _, _, c⟩
  . have := wR hq c
    exact ⟨hnm, by rw [this]; exact dL _, by rw [this]; exact eF _⟩
  . exact ⟨hnm, (hg _ _ c).1, (hg _ _ c).2⟩
 asc j a b ha hb := vI (by rw [h2]; exact lV l) ha hb
theorem Fb {q : List Itm} (hq : PlOk q) {k : Nat} {d : Dig} {l : List Fl} (h : Std q k d l) : WfD d /\ d ≠ zD := by
 cases k with
 | zero => exact h.elim
 | succ k =>
   obtain ⟨es, h1, _⟩ := h; have := wR hq h1; exact ⟨by rw [this]; exact dL _, by rw [this]; exact eF _⟩
theorem Ev : ∀ (k : Nat) (p : List Itm) (l : List Fl) (q : List Itm) (d : Dig), OkL l -> PlOk p -> sto k p l = some (q, d) -> Std q k d l /\ PlOk q /\ subP p q := by
 intro k
 induction k with
 | zero => intro p l q d _ _ h; rw [sto] at h; cases h
 | succ k ih =>
   intro p l q d hl hp h; rw [sto] at h; cases hE : bQ (sto k) l p (aU l) [] with
   | none => rw [hE] at h; cases h
   | some pe =>
     obtain ⟨p1, es⟩ := pe; rw [hE] at h; simp only at h; cases hpp : bB p1 (bI es) with
     | none => rw [hpp] at h; cases h
     | some p2 =>
       rw [hpp] at h; cases h
       obtain ⟨a, b, fs, c, e1, e2⟩ := Dm ih hl (aU l) p [] p1 es hp (fun n hn => hn) hE; rw [List.nil_append] at c; subst c; have hes := DY hl e1 e2 (fun d l h => Fb a h) a; have hob := kL hes; have hok := gB a hob hpp; have hsb := lu a hpp; exact ⟨⟨es, uV a hob hpp, e1, fun e he => (e2 e he).mono a hok hsb (fun d l h => h.mono a hok hsb)⟩, hok, b.trans hsb⟩
structure OkT (l : List Fl) : Prop where
 path : ∀ f ∈ l, cZ f.1 = true
 data : ∀ f ∈ l, f.2.size <= 60000
 nod : (l.map Prod.fst).Nodup
 nob : ∀ f ∈ l, ∀ g ∈ l, fT f.1 g.1 = false
theorem OkT.ok {l : List Fl} (h : OkT l) (hl : l.length <= 200) : OkL l := ⟨h.path, h.data, hl, h.nod, h.nob⟩
section
variable {p : List Itm} {le : Ent -> List Fl} {es : List Ent}
variable (hes : dP es) (hle : ∀ e ∈ es, e.dir = true -> OkT (le e) /\ le e ≠ [] /\ ∀ g ∈ le e, (e.nm ++ slB ++ g.1).size <= 100) (hfl : ∀ e ∈ es, e.dir = false -> ∃ s, s.size <= 60000 /\ ay p e.dg = some (bP s))
include hes hle hfl
end
theorem uB {l : List Fl} (h : AscF l) : (l.map Prod.fst).Nodup := by
 unfold List.Nodup; rw [List.pairwise_map]; exact List.Pairwise.imp (fun h => iN h) h
section
variable {l out : List Fl} {f g : Fl} {i : Nat} {put : Bool}
end
section
variable {g : Dig -> ByteArray -> List Fl × Int} {p : List Itm} {pre : ByteArray} {es : List Ent} {l fs m : List Fl} {j : Nat} {e : Ent}
end
structure FCh where
 path : ByteArray
 ho : Bool
 hn : Bool
 old : ByteArray
 new : ByteArray
def fcC (x : FCh) : List Value := [.string x.path, .bool x.ho, .bool x.hn, .string x.old, .string x.new]
theorem Ec (x : FCh) : (fcC x).length = 5 := rfl
def yx (x : FCh) : Prop := x.ho ≠ x.hn ∨ x.old ≠ x.new
instance (x : FCh) : Decidable (yx x) := by unfold yx; infer_instance
section
variable {l m : List Fl} {c : List FCh} {j : Nat} {x : FCh}
end
end Go.Proofs.YtlcecobipgmafaaGreatDoor
