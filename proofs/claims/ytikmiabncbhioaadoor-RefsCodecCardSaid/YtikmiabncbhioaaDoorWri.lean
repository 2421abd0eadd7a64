/-
  codec.digits, writeInt, PutInt and PutText.
-/
import Derived.Test.YtikmiabncbhioaaDoorSeq
import Derived.Test.YtikmiabncbhioaaDoorRange2
import Derived.Test.YtikmiabncbhioaaDoorBld
import Derived.Test.YtikmiabncbhioaaDoorCod
namespace Go.Proofs.YtikmiabncbhioaaDoor
open Go.RowKit Go.Shelf
attribute [local go_sem] Oper.semAt_some

def KeepB (lo : Nat) (A B : World) : Prop := B.heap[lo]? = A.heap[lo]?
theorem keepB_t {lo : Nat} {A B C : World} (h : KeepB lo A B) (k : KeepB lo B C) : KeepB lo A C := k.trans h
theorem keepB_put {lo m : Nat} (h : lo < m) (W : World) (l : Nat) (o : Obj) (hl : m ≤ l) : KeepB lo W (W.putObj l o) := World.putObj_heap_other (by omega)
def StB (lo : Nat) (A B : World) : Prop := ∃ v, B = A.setCell ⟨lo, 0, none⟩ (.int .i64 v)
theorem stB_others {lo : Nat} (A B : World) (h : StB lo A B) : KeepsOthers A B := by
  obtain ⟨v, rfl⟩ := h
  exact KeepsOthers.setCell _ _ _
def numAt (lo : Nat) (w : World) : Nat := match w.cell? ⟨lo, 0, none⟩ with
  | some (.int _ n) => n.toNat
  | _ => 0
theorem numAt_eq {lo : Nat} {w : World} {n : Nat} (h : w.heap[lo]? = some (.cells #[.int .i64 n] 3 (0, 0))) : numAt lo w = n := by
  have := cell_of_one h
  simp [numAt, this]

set_option maxRecDepth 100000 in
set_option maxHeartbeats 1000000 in
theorem digits_st (n lo : Nat) (hn : 1 ≤ n) (m : Nat) (w : World) (hm : m ≤ 9223372036854775807) (hlo : lo < w.heap.size) (h0 : w.heap[lo]? = some (.cells #[.int .i64 m] 3 (0, 0))) :
    SeqP Fence.wide n Tryd.prog 87 #[.pointer (some ⟨lo, 0, none⟩)] (fun x : UInt8 => #[.int .u8 x.toNat]) (KeepB lo) (StB lo)
      (fun pre => ∃ r, pre ++ r = encN m) (fun xs => xs = encN m) (fun pre => ∃ r, pre ++ r = encN m) w := fun l J Jx W hW hJ hY hJ0 => by
  have g0 : W.heap[lo]? = some (.cells #[.int .i64 m] 3 (0, 0)) := (hW.block lo (by omega)).trans h0
  clear hW h0
  have G0 := Lib.hid g0; have HJ := Lib.hid hJ; have HY := Lib.hid hY; have HJ0 := Lib.hid hJ0
  clear g0 hJ hY hJ0
  refine callsIn_of_wp Tryd.func87 rfl trivial ?_ rfl
  simp only [Tryd.ntmps87, List.size_toArray, List.length_cons, List.length_nil, Nat.reduceAdd, Nat.reduceSub, Array.replicate_succ, Array.replicate_zero, List.push_toArray, List.append_toArray, List.nil_append, List.cons_append]
  gi_wp2_with fail
  gi_loopw [3, 4] (fun _ _ wr => ∃ (pre : Bytes) (c : Nat), c ≤ 9223372036854775807 ∧ Hid (wr.heap[lo]? = some (.cells #[.int .i64 c] 3 (0, 0))) ∧ Hid (pre ++ encN c = encN m) ∧ J pre wr)
    (fun _ _ wr => numAt lo wr)
  case atStart => exact ⟨[], m, hm, G0, rfl, HJ0.out⟩
  case round =>
    obtain ⟨pre, c, hc, k0, hsp, hj⟩ := hrel
    have d0 := cell_of_one k0.out
    have f0 := free_of_one k0.out
    have HJR := Lib.hid hj
    clear hj
    by_cases hs : c < 128
    · have e8 := toNat_ofNat8 (n := c) (by omega)
      obtain ⟨fn, tmps, assign, body, hy, hR⟩ := HY.out pre (UInt8.ofNat c) wr ⟨[], by rw [List.append_nil, ← hsp.out, encN_small hs]⟩ HJR.out
      rw [e8] at hy
      have HR := Lib.hid hR
      have HE := Lib.hid (encN_small hs)
      clear hR e8
      have hci : ¬ (128 : Int) ≤ (c : Int) := by omega
      gi_wp2
      refine HR.out.mono ?_
      rintro e W3 (⟨rfl, hJ3, _⟩ | ⟨rfl, hJx3⟩)
      · gi_wp2
        go_end0
        exact ⟨⟨_, rfl⟩, .inl ⟨pre ++ [UInt8.ofNat c], by rw [← hsp.out, HE.out], hJ3⟩⟩
      · gi_wp2
        go_end0
        exact ⟨⟨_, rfl⟩, .inr ⟨pre ++ [UInt8.ofNat c], ⟨[], by rw [← hsp.out, HE.out, List.append_nil]⟩, hJx3⟩⟩
    · have e8 := toNat_ofNat8 (n := c % 128 + 128) (by omega)
      have ei : (((UInt8.ofNat (c % 128 + 128)).toNat : Nat) : Int) = (c : Int) % 128 + 128 := by rw [e8]; omega
      obtain ⟨fn, tmps, assign, body, hy, hR⟩ := HY.out pre (UInt8.ofNat (c % 128 + 128)) wr ⟨encN (c / 128), by rw [← hsp.out, encN_big hs, List.append_assoc]; rfl⟩ HJR.out
      rw [ei] at hy
      have HR := Lib.hid hR
      have HE := Lib.hid (encN_big hs)
      clear hR e8 ei
      have hci : (128 : Int) ≤ (c : Int) := by omega
      gi_wp2
      refine HR.out.mono ?_
      rintro e W3 (⟨rfl, hJ3, hK3⟩ | ⟨rfl, hJx3⟩)
      · have m0 : W3.heap[lo]? = some (.cells #[.int .i64 c] 3 (0, 0)) := hK3.trans k0.out
        have e0 := cell_of_one m0; have q0 := free_of_one m0
        have M0 := Lib.hid m0
        have HJ3 := Lib.hid hJ3
        clear m0 hJ3 hK3 d0 f0
        gi_wp2
        go_roundw
        case rel =>
          refine ⟨pre ++ [UInt8.ofNat (c % 128 + 128)], c / 128, by omega, one_setCell M0.out, ?_, HJ.out _ _ _ HJ3.out ⟨_, rfl⟩⟩
          show _ = _
          rw [← hsp.out, HE.out, List.append_assoc]; rfl
        case measure =>
          have hq := one_setCell (u := .int .i64 ((c / 128 : Nat) : Int)) M0.out
          rw [show (c : Int) / 128 = ((c / 128 : Nat) : Int) by omega, numAt_eq hq, numAt_eq k0.out]
          omega
      · gi_wp2
        refine bodyPost_ret (results_none rfl _ _ _) rfl ?_
        exact ⟨⟨_, rfl⟩, .inr ⟨pre ++ [UInt8.ofNat (c % 128 + 128)], ⟨encN (c / 128), by rw [← hsp.out, HE.out, List.append_assoc]; rfl⟩, hJx3⟩⟩

set_option maxHeartbeats 400000 in
theorem digits_any (m : Int) (w : World) :
    Calls Tryd.prog 78 #[.int .i64 m] w fun e w' => e = .returned (.func (.func 87) #[] #[.pointer (some ⟨w.heap.size, 0, none⟩)]) ∧ w' = w.alloc (.cells #[.int .i64 m] 3) := by
  go_enter Tryd.func78, Tryd.ntmps78
  go_wp2
  go_ret
  exact ⟨rfl, rfl⟩

/-- a builder stays while what is no cells turns -/
theorem builder_own {B b : Nat} {p : Value} {bs : List Value} {W W' : World} {row : Option Nat} (h : Lib.BuilderAt 99 5 B b p bs W) (hg : W.grownBy W' row) (hr : ∀ r, row = some r → ∃ o : Obj, W.heap[r]? = some o ∧ o.isCells = false) : Lib.BuilderAt 99 5 B b p bs W' := by
  obtain ⟨hB, v, hb, hown, hne⟩ := h
  have key : ∀ (k : Nat) (cs : Array Value) (t : TypeId) (fr : Nat × Nat), W.heap[k]? = some (Obj.cells cs t fr) → W'.heap[k]? = some (Obj.cells cs t fr) := fun k cs t fr hk =>
    (hg.block k (Array.getElem?_eq_some_iff.1 hk).1 (fun e => by
      obtain ⟨o, ho, hc⟩ := hr k e.symm
      rw [ho] at hk; cases hk; cases hc)).trans hk
  refine ⟨hB, v, key _ _ _ _ hb, ⟨hown.1, ?_⟩, hne⟩
  rcases hown.2 with h0 | ⟨g, cap, cur, hv, h1, hh, h2⟩
  · exact .inl h0
  · exact .inr ⟨g, cap, cur, hv, h1, key _ _ _ _ hh, h2⟩
theorem isBuilder_own {B b : Nat} {bs : List Value} {W W' : World} {row : Option Nat} (h : Lib.IsBuilder 99 5 B b bs W) (hg : W.grownBy W' row) (hr : ∀ r, row = some r → ∃ o : Obj, W.heap[r]? = some o ∧ o.isCells = false) : Lib.IsBuilder 99 5 B b bs W' := by
  rcases h with h | h
  · exact .inl (builder_own h hg hr)
  · exact .inr (builder_own h hg hr)
/-- .. and while a box of another type is written -/
theorem isBuilder_box {B b lo : Nat} {bs : List Value} {W : World} {v u : Value} (h : Lib.IsBuilder 99 5 B b bs W) (hlo : W.heap[lo]? = some (.cells #[v] 3 (0, 0))) : Lib.IsBuilder 99 5 B b bs (W.setCell ⟨lo, 0, none⟩ u) := by
  have key : ∀ (k : Nat) (cs : Array Value) (t : TypeId) (fr : Nat × Nat), t ≠ 3 → W.heap[k]? = some (Obj.cells cs t fr) → (W.setCell ⟨lo, 0, none⟩ u).heap[k]? = some (Obj.cells cs t fr) := fun k cs t fr h3 hk =>
    (Below.heap_setCell W ⟨lo, 0, none⟩ u k (fun e => by
      have e' : k = lo := e
      rw [e', hlo] at hk
      simp only [Option.some.injEq, Obj.cells.injEq] at hk
      exact h3 hk.2.1.symm)).trans hk
  have one : ∀ p, Lib.BuilderAt 99 5 B b p bs W → Lib.BuilderAt 99 5 B b p bs (W.setCell ⟨lo, 0, none⟩ u) := by
    rintro p ⟨hB, v', hb, hown, hne⟩
    refine ⟨hB, v', key _ _ _ _ (by decide) hb, ⟨hown.1, ?_⟩, hne⟩
    rcases hown.2 with h0 | ⟨g, cap, cur, hv, h1, hh, h2⟩
    · exact .inl h0
    · exact .inr ⟨g, cap, cur, hv, h1, key _ _ _ _ (by decide) hh, h2⟩
  rcases h with h | h
  · exact .inl (one _ h)
  · exact .inr (one _ h)
theorem isBuilder_alloc {B b : Nat} {bs : List Value} {W : World} (h : Lib.IsBuilder 99 5 B b bs W) (o : Obj) : Lib.IsBuilder 99 5 B b bs (W.alloc o) :=
  isBuilder_own h (World.grownBy_alloc W o none) (fun r e => by cases e)

theorem byteCells_snoc (l : Bytes) (x : UInt8) : Lib.byteCells l ++ [.int .u8 x.toNat] = Lib.byteCells (l ++ [x]) := by simp [Lib.byteCells]
theorem byteCells_len (l : Bytes) : (Lib.byteCells l).length = l.length := by simp [Lib.byteCells]

set_option maxRecDepth 100000 in
set_option maxHeartbeats 2000000 in
theorem writeInt_any (B b : Nat) (bs : Bytes) (m : Nat) (w : World) (h : Lib.IsBuilder 99 5 B b (Lib.byteCells bs) w) (hBw : B ≤ w.heap.size) (hm : m ≤ 1099511627776) (hlen : bs.length ≤ 1099511627776) :
    Calls Tryd.prog 69 #[.pointer (some ⟨b, 0, none⟩), .int .i64 m] w fun e w' => e = .returned (.tuple #[]) ∧ Lib.IsBuilder 99 5 B b (Lib.byteCells (bs ++ encN m)) w' ∧ Below B w w' := by
  refine (callsIn_wide (n := 6)).1 ?_
  have hf78 : Fence.wide.fn 78 := trivial
  have hf79 : Fence.wide.fn 79 := trivial
  have HH := Lib.hid h; clear h
  refine callsIn_of_wp_marks Tryd.func69 rfl trivial ?_ rfl
  simp only [Tryd.ntmps69, List.size_toArray, List.length_cons, List.length_nil, Nat.reduceAdd, Nat.reduceSub, Array.replicate_succ, Array.replicate_zero, List.push_toArray, List.append_toArray, List.nil_append, List.cons_append]
  gi_wp2_with (gi_at_call 78; refine (callsIn_wide.2 (digits_any _ _)).mono ?_; rintro e w' ⟨rfl, rfl⟩)
  obtain ⟨W0, hW0⟩ : ∃ W0, (w.alloc (.cells #[.pointer (some ⟨b, 0, none⟩)] 97)).alloc (.cells #[.int .i64 m] 3) = W0 := ⟨_, rfl⟩
  have hz : W0.heap.size = w.heap.size + 2 := by rw [← hW0]; simp
  have g0 : W0.heap[w.heap.size]? = some (.cells #[.pointer (some ⟨b, 0, none⟩)] 97 (0, 0)) := by
    rw [← hW0]
    exact (Below.heap_alloc _ _ _ (by simp)).trans (World.alloc_heap_new w _)
  have g1 : W0.heap[w.heap.size + 1]? = some (.cells #[.int .i64 m] 3 (0, 0)) := by
    rw [← hW0]
    have := World.alloc_heap_new (w.alloc (.cells #[.pointer (some ⟨b, 0, none⟩)] 97)) (.cells #[.int .i64 m] 3); rwa [World.size_alloc] at this
  have hb0 : Below B w W0 := by
    rw [← hW0]
    exact ((Below.refl _ w).alloc hBw _).alloc (by simp; omega) _
  have hbd : Lib.IsBuilder 99 5 B b (Lib.byteCells bs) W0 := by
    rw [← hW0]; exact isBuilder_alloc (isBuilder_alloc HH.out _) _
  rw [hW0]
  refine wpIn_rangeP (F := Fence.wide) (n := 6) rfl (by omega) (gf := 87) (lb := #[.pointer (some ⟨w.heap.size + 1, 0, none⟩)]) rfl trivial (enters_of Tryd.func87 (by kernel_rfl) rfl)
    (digits_st 5 (w.heap.size + 1) (by omega) m W0 (by omega) (by omega) g1) keepB_t (fun W l o hl => keepB_put (m := w.heap.size + 2) (by omega) W l o (by omega)) stB_others (Below.refl _ _) (fun _ => rfl)
    (fun pre W => W.heap[w.heap.size]? = some (.cells #[.pointer (some ⟨b, 0, none⟩)] 97 (0, 0)) ∧ (∃ c, W.heap[w.heap.size + 1]? = some (.cells #[.int .i64 c] 3 (0, 0))) ∧ Lib.IsBuilder 99 5 B b (Lib.byteCells (bs ++ pre)) W ∧ Below B w W)
    (fun _ _ _ => False) ?hI ?hIx ?hIS ⟨g0, ⟨_, g1⟩, by rw [List.append_nil]; exact hbd, hb0⟩
    (fun x => { tmps := #[.pointer (some ⟨b, 0, none⟩), .int .i64 m, .pointer (some ⟨w.heap.size, 0, none⟩), undef, .int .u8 x.toNat, .int .i64 m, .func (.func 87) #[] #[.pointer (some ⟨w.heap.size + 1, 0, none⟩)], .int .u8 x.toNat, undef, undef, undef], defers := [] }) ?assign ?body ?done ?stop
  case hI =>
    rintro pre A C row ⟨h1, ⟨c, h2⟩, h3, h4⟩ hg hr
    have hnc : ∀ r, row = some r → ∃ o : Obj, A.heap[r]? = some o ∧ o.isCells = false := fun r e => (hr r e).2
    have key : ∀ (k : Nat) (v : Value) (t : TypeId), A.heap[k]? = some (Obj.cells #[v] t (0, 0)) → C.heap[k]? = some (Obj.cells #[v] t (0, 0)) := fun k v t hk =>
      (hg.block k (lt_of_block hk) (fun e => by
        obtain ⟨o, ho, hc⟩ := hnc k e.symm
        rw [ho] at hk; cases hk; cases hc)).trans hk
    exact ⟨key _ _ _ h1, ⟨c, key _ _ _ h2⟩, isBuilder_own h3 hg hnc, h4.grown hg (Nat.le_trans hBw h4.size) (fun k e => by have := (hr _ e).1; omega)⟩
  case hIx => rintro c pre A C row hf _ _; exact hf
  case hIS =>
    rintro pre A C ⟨h1, ⟨c, h2⟩, h3, h4⟩ ⟨v, rfl⟩
    exact ⟨(Below.heap_setCell _ _ _ _ (by simp)).trans h1, ⟨v, one_setCell h2⟩, isBuilder_box h3 h2, h4.setCell (p := ⟨w.heap.size + 1, 0, none⟩) (by show B ≤ w.heap.size + 1; omega) _⟩
  case assign =>
    intro l x W K hK
    gi_wp2
    exact hK
  case body =>
    rintro l pre x W ⟨r, hr⟩ ⟨h1, ⟨c, h2⟩, h3, h4⟩
    have c0 := cell_of_one h1
    have hpl : pre.length + 1 ≤ 6 := by
      have e1 := congrArg List.length hr
      have e2 := encN_len 5 m (by omega)
      simp at e1; omega
    have H1 := Lib.hid h1; have H2 := Lib.hid h2; have H3 := Lib.hid h3; have H4 := Lib.hid h4
    clear h1 h2 h3 h4 g0 g1 hb0 hW0 hz hbd hr
    gi_wp2_with (gi_at_call 79; refine (CallsIn.inRound l (callsIn_wide.2 (writeByte_any B b (Lib.byteCells (bs ++ pre)) _ _ H3.out (by rw [byteCells_len, List.length_append]; omega) (Nat.le_trans hBw H4.out.size)))).mono ?_; rintro e w' ⟨rfl, k1, k2, k3⟩)
    refine ⟨k3.others, ?_, ?_⟩
    · show _ = _
      rw [k3.same _ _ _ _ (by decide) (by decide) H2.out, H2.out]
    · refine ⟨k3.same _ _ _ _ (by decide) (by decide) H1.out, ⟨c, k3.same _ _ _ _ (by decide) (by decide) H2.out⟩, ?_, H4.out.trans k2⟩
      rw [byteCells_snoc, List.append_assoc] at k1
      exact .inr k1
  case done =>
    rintro D xs W hD rfl ⟨h1, _, h3, h4⟩ hK
    have H3 := Lib.hid h3; have H4 := Lib.hid h4; have HK := Lib.hid hK
    clear h1 h3 h4 hK
    gi_wp2
    refine ⟨by simp, .inl ⟨_, _, rfl, run_takeDeferred HK.out, ?_⟩⟩
    refine ⟨_, results_none rfl _ _ _, rfl, ?_, ?_⟩
    · exact isBuilder_own H3.out (grownBy_putObj' _ _ _) (fun r e => by cases e; exact ⟨_, HK.out, rfl⟩)
    · exact H4.out.grown (grownBy_putObj' _ _ _) (Nat.le_trans hBw H4.out.size) (fun k e => by cases e; omega)
  case stop =>
    rintro D c pre W hD hS hf hK
    exact hf.elim
end Go.Proofs.YtikmiabncbhioaaDoor
