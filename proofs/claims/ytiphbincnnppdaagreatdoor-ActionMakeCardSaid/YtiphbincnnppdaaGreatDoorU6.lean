/-
  Lemmas: codec.digits, writeInt, PutInt and PutText. codec.PutInt and PutText, cordwoodref01.put, PutInt and PutText. action.number, text and EncodeOutput: the encoding of an output. GetInt and GetText, what a number or a text at the beginning of a string is. The reader of encodings: (*action.reader).number and text. Reading an output, in plain Lean: what is read from an encoding is the output. An append at a step of a region that draws its order. action.DecodeOutput. cordwoodref01.GetInt and GetText. The reference's reader: (cordwoodref41.rest).number and text.
-/
import Derived.Deep.QuietTactic
import Derived.BigQuiet
import Derived.Deep.RegionLaw
import Derived.RegionTactic
import Derived.BigRegion
import Derived.Test.YtiphbincnnppdaaGreatDoorU5

namespace Go.Proofs.YtiphbincnnppdaaGreatDoor
open Go.RowKit Go.Shelf
attribute [local go_sem] Oper.semAt_some

def KeepB (lo : Nat) (A B : World) : Prop := B.heap[lo]? = A.heap[lo]?
theorem keepB_t {lo : Nat} {A B C : World} (h : KeepB lo A B) (k : KeepB lo B C) : KeepB lo A C := k.trans h
theorem keepB_put {lo m : Nat} (h : lo < m) (W : World) (l : Nat) (o : Obj) (hl : m ≤ l) : KeepB lo W (W.putObj l o) := World.putObj_heap_other (by omega)
def StB (lo : Nat) (A B : World) : Prop := ∃ v, B = A.setCell ⟨lo, 0, none⟩ (.int .i64 v)
theorem stB_others {lo : Nat} (A B : World) (h : StB lo A B) : KeepsOthers A B := by
  obtain ⟨v, rfl⟩ := h
  exact KeepsOthers.setCell _ _ _
def numAt (lo : Nat) (w : World) : Nat := match w.cell? ⟨lo, 0, none⟩ with
  | some (.int _ n) => n.toNat
  | _ => 0
theorem numAt_eq {lo : Nat} {w : World} {n : Nat} (h : w.heap[lo]? = some (.cells #[.int .i64 n] 3 (0, 0))) : numAt lo w = n := by
  have := cell_of_one h
  simp [numAt, this]

set_option maxRecDepth 100000 in
set_option maxHeartbeats 1000000 in
theorem digits_st (n lo : Nat) (hn : 1 ≤ n) (m : Nat) (w : World) (hm : m ≤ 9223372036854775807) (hlo : lo < w.heap.size) (h0 : w.heap[lo]? = some (.cells #[.int .i64 m] 3 (0, 0))) :
    SeqP Fence.wide n Tryz.prog 130 #[.pointer (some ⟨lo, 0, none⟩)] (fun x : UInt8 => #[.int .u8 x.toNat]) (KeepB lo) (StB lo)
      (fun pre => ∃ r, pre ++ r = encN m) (fun xs => xs = encN m) (fun pre => ∃ r, pre ++ r = encN m) w := fun l J Jx W hW hJ hY hJ0 => by
  have g0 : W.heap[lo]? = some (.cells #[.int .i64 m] 3 (0, 0)) := (hW.block lo (by omega)).trans h0
  clear hW h0
  have G0 := Lib.hid g0; have HJ := Lib.hid hJ; have HY := Lib.hid hY; have HJ0 := Lib.hid hJ0
  clear g0 hJ hY hJ0
  refine callsIn_of_wp Tryz.func130 rfl trivial ?_ rfl
  simp only [Tryz.ntmps130, List.size_toArray, List.length_cons, List.length_nil, Nat.reduceAdd, Nat.reduceSub, Array.replicate_succ, Array.replicate_zero, List.push_toArray, List.append_toArray, List.nil_append, List.cons_append]
  gi_wp2_with fail
  gi_loopw [3, 4] (fun _ _ wr => ∃ (pre : Bytes) (c : Nat), c ≤ 9223372036854775807 ∧ Hid (wr.heap[lo]? = some (.cells #[.int .i64 c] 3 (0, 0))) ∧ Hid (pre ++ encN c = encN m) ∧ J pre wr)
    (fun _ _ wr => numAt lo wr)
  case atStart => exact ⟨[], m, hm, G0, rfl, HJ0.out⟩
  case round =>
    obtain ⟨pre, c, hc, k0, hsp, hj⟩ := hrel
    have d0 := cell_of_one k0.out
    have f0 := free_of_one k0.out
    have HJR := Lib.hid hj
    clear hj
    by_cases hs : c < 128
    · have e8 := toNat_ofNat8 (n := c) (by omega)
      obtain ⟨fn, tmps, assign, body, hy, hR⟩ := HY.out pre (UInt8.ofNat c) wr ⟨[], by rw [List.append_nil, ← hsp.out, encN_small hs]⟩ HJR.out
      rw [e8] at hy
      have HR := Lib.hid hR
      have HE := Lib.hid (encN_small hs)
      clear hR e8
      have hci : ¬ (128 : Int) ≤ (c : Int) := by omega
      gi_wp2
      refine HR.out.mono ?_
      rintro e W3 (⟨rfl, hJ3, _⟩ | ⟨rfl, hJx3⟩)
      · gi_wp2
        go_end0
        exact ⟨⟨_, rfl⟩, .inl ⟨pre ++ [UInt8.ofNat c], by rw [← hsp.out, HE.out], hJ3⟩⟩
      · gi_wp2
        go_end0
        exact ⟨⟨_, rfl⟩, .inr ⟨pre ++ [UInt8.ofNat c], ⟨[], by rw [← hsp.out, HE.out, List.append_nil]⟩, hJx3⟩⟩
    · have e8 := toNat_ofNat8 (n := c % 128 + 128) (by omega)
      have ei : (((UInt8.ofNat (c % 128 + 128)).toNat : Nat) : Int) = (c : Int) % 128 + 128 := by rw [e8]; omega
      obtain ⟨fn, tmps, assign, body, hy, hR⟩ := HY.out pre (UInt8.ofNat (c % 128 + 128)) wr ⟨encN (c / 128), by rw [← hsp.out, encN_big hs, List.append_assoc]; rfl⟩ HJR.out
      rw [ei] at hy
      have HR := Lib.hid hR
      have HE := Lib.hid (encN_big hs)
      clear hR e8 ei
      have hci : (128 : Int) ≤ (c : Int) := by omega
      gi_wp2
      refine HR.out.mono ?_
      rintro e W3 (⟨rfl, hJ3, hK3⟩ | ⟨rfl, hJx3⟩)
      · have m0 : W3.heap[lo]? = some (.cells #[.int .i64 c] 3 (0, 0)) := hK3.trans k0.out
        have e0 := cell_of_one m0; have q0 := free_of_one m0
        have M0 := Lib.hid m0
        have HJ3 := Lib.hid hJ3
        clear m0 hJ3 hK3 d0 f0
        gi_wp2
        go_roundw
        case rel =>
          refine ⟨pre ++ [UInt8.ofNat (c % 128 + 128)], c / 128, by omega, one_setCell M0.out, ?_, HJ.out _ _ _ HJ3.out ⟨_, rfl⟩⟩
          show _ = _
          rw [← hsp.out, HE.out, List.append_assoc]; rfl
        case measure =>
          have hq := one_setCell (u := .int .i64 ((c / 128 : Nat) : Int)) M0.out
          rw [show (c : Int) / 128 = ((c / 128 : Nat) : Int) by omega, numAt_eq hq, numAt_eq k0.out]
          omega
      · gi_wp2
        refine bodyPost_ret (results_none rfl _ _ _) rfl ?_
        exact ⟨⟨_, rfl⟩, .inr ⟨pre ++ [UInt8.ofNat (c % 128 + 128)], ⟨encN (c / 128), by rw [← hsp.out, HE.out, List.append_assoc]; rfl⟩, hJx3⟩⟩

set_option maxHeartbeats 400000 in
theorem digits_any (m : Int) (w : World) :
    Calls Tryz.prog 112 #[.int .i64 m] w fun e w' => e = .returned (.func (.func 130) #[] #[.pointer (some ⟨w.heap.size, 0, none⟩)]) ∧ w' = w.alloc (.cells #[.int .i64 m] 3) := by
  go_enter Tryz.func112, Tryz.ntmps112
  go_wp2
  go_ret
  exact ⟨rfl, rfl⟩

/-- a builder stays while what is no cells turns -/
theorem builder_own {B b : Nat} {p : Value} {bs : List Value} {W W' : World} {row : Option Nat} (h : Lib.BuilderAt 74 5 B b p bs W) (hg : W.grownBy W' row) (hr : ∀ r, row = some r → ∃ o : Obj, W.heap[r]? = some o ∧ o.isCells = false) : Lib.BuilderAt 74 5 B b p bs W' := by
  obtain ⟨hB, v, hb, hown, hne⟩ := h
  have key : ∀ (k : Nat) (cs : Array Value) (t : TypeId) (fr : Nat × Nat), W.heap[k]? = some (Obj.cells cs t fr) → W'.heap[k]? = some (Obj.cells cs t fr) := fun k cs t fr hk =>
    (hg.block k (Array.getElem?_eq_some_iff.1 hk).1 (fun e => by
      obtain ⟨o, ho, hc⟩ := hr k e.symm
      rw [ho] at hk; cases hk; cases hc)).trans hk
  refine ⟨hB, v, key _ _ _ _ hb, ⟨hown.1, ?_⟩, hne⟩
  rcases hown.2 with h0 | ⟨g, cap, cur, hv, h1, hh, h2⟩
  · exact .inl h0
  · exact .inr ⟨g, cap, cur, hv, h1, key _ _ _ _ hh, h2⟩
theorem isBuilder_own {B b : Nat} {bs : List Value} {W W' : World} {row : Option Nat} (h : Lib.IsBuilder 74 5 B b bs W) (hg : W.grownBy W' row) (hr : ∀ r, row = some r → ∃ o : Obj, W.heap[r]? = some o ∧ o.isCells = false) : Lib.IsBuilder 74 5 B b bs W' := by
  rcases h with h | h
  · exact .inl (builder_own h hg hr)
  · exact .inr (builder_own h hg hr)
/-- .. and while a box of another type is written -/
theorem isBuilder_box {B b lo : Nat} {bs : List Value} {W : World} {v u : Value} (h : Lib.IsBuilder 74 5 B b bs W) (hlo : W.heap[lo]? = some (.cells #[v] 3 (0, 0))) : Lib.IsBuilder 74 5 B b bs (W.setCell ⟨lo, 0, none⟩ u) := by
  have key : ∀ (k : Nat) (cs : Array Value) (t : TypeId) (fr : Nat × Nat), t ≠ 3 → W.heap[k]? = some (Obj.cells cs t fr) → (W.setCell ⟨lo, 0, none⟩ u).heap[k]? = some (Obj.cells cs t fr) := fun k cs t fr h3 hk =>
    (Below.heap_setCell W ⟨lo, 0, none⟩ u k (fun e => by
      have e' : k = lo := e
      rw [e', hlo] at hk
      simp only [Option.some.injEq, Obj.cells.injEq] at hk
      exact h3 hk.2.1.symm)).trans hk
  have one : ∀ p, Lib.BuilderAt 74 5 B b p bs W → Lib.BuilderAt 74 5 B b p bs (W.setCell ⟨lo, 0, none⟩ u) := by
    rintro p ⟨hB, v', hb, hown, hne⟩
    refine ⟨hB, v', key _ _ _ _ (by decide) hb, ⟨hown.1, ?_⟩, hne⟩
    rcases hown.2 with h0 | ⟨g, cap, cur, hv, h1, hh, h2⟩
    · exact .inl h0
    · exact .inr ⟨g, cap, cur, hv, h1, key _ _ _ _ (by decide) hh, h2⟩
  rcases h with h | h
  · exact .inl (one _ h)
  · exact .inr (one _ h)
theorem isBuilder_alloc {B b : Nat} {bs : List Value} {W : World} (h : Lib.IsBuilder 74 5 B b bs W) (o : Obj) : Lib.IsBuilder 74 5 B b bs (W.alloc o) :=
  isBuilder_own h (World.grownBy_alloc W o none) (fun r e => by cases e)

theorem byteCells_snoc (l : Bytes) (x : UInt8) : Lib.byteCells l ++ [.int .u8 x.toNat] = Lib.byteCells (l ++ [x]) := by simp [Lib.byteCells]
theorem byteCells_len (l : Bytes) : (Lib.byteCells l).length = l.length := by simp [Lib.byteCells]

set_option maxRecDepth 100000 in
set_option maxHeartbeats 2000000 in
theorem writeInt_any (B b : Nat) (bs : Bytes) (m : Nat) (w : World) (h : Lib.IsBuilder 74 5 B b (Lib.byteCells bs) w) (hBw : B ≤ w.heap.size) (hm : m ≤ 1099511627776) (hlen : bs.length ≤ 1099511627776) :
    Calls Tryz.prog 82 #[.pointer (some ⟨b, 0, none⟩), .int .i64 m] w fun e w' => e = .returned (.tuple #[]) ∧ Lib.IsBuilder 74 5 B b (Lib.byteCells (bs ++ encN m)) w' ∧ Below B w w' := by
  refine (callsIn_wide (n := 6)).1 ?_
  have hf78 : Fence.wide.fn 112 := trivial
  have hf79 : Fence.wide.fn 113 := trivial
  have HH := Lib.hid h; clear h
  refine callsIn_of_wp_marks Tryz.func82 rfl trivial ?_ rfl
  simp only [Tryz.ntmps82, List.size_toArray, List.length_cons, List.length_nil, Nat.reduceAdd, Nat.reduceSub, Array.replicate_succ, Array.replicate_zero, List.push_toArray, List.append_toArray, List.nil_append, List.cons_append]
  gi_wp2_with (gi_at_call 112; refine (callsIn_wide.2 (digits_any _ _)).mono ?_; rintro e w' ⟨rfl, rfl⟩)
  obtain ⟨W0, hW0⟩ : ∃ W0, (w.alloc (.cells #[.pointer (some ⟨b, 0, none⟩)] 71)).alloc (.cells #[.int .i64 m] 3) = W0 := ⟨_, rfl⟩
  have hz : W0.heap.size = w.heap.size + 2 := by rw [← hW0]; simp
  have g0 : W0.heap[w.heap.size]? = some (.cells #[.pointer (some ⟨b, 0, none⟩)] 71 (0, 0)) := by
    rw [← hW0]
    exact (Below.heap_alloc _ _ _ (by simp)).trans (World.alloc_heap_new w _)
  have g1 : W0.heap[w.heap.size + 1]? = some (.cells #[.int .i64 m] 3 (0, 0)) := by
    rw [← hW0]
    have := World.alloc_heap_new (w.alloc (.cells #[.pointer (some ⟨b, 0, none⟩)] 71)) (.cells #[.int .i64 m] 3); rwa [World.size_alloc] at this
  have hb0 : Below B w W0 := by
    rw [← hW0]
    exact ((Below.refl _ w).alloc hBw _).alloc (by simp; omega) _
  have hbd : Lib.IsBuilder 74 5 B b (Lib.byteCells bs) W0 := by
    rw [← hW0]; exact isBuilder_alloc (isBuilder_alloc HH.out _) _
  rw [hW0]
  refine wpIn_rangeP (F := Fence.wide) (n := 6) rfl (by omega) (gf := 130) (lb := #[.pointer (some ⟨w.heap.size + 1, 0, none⟩)]) rfl trivial (enters_of Tryz.func130 (by kernel_rfl) rfl)
    (digits_st 5 (w.heap.size + 1) (by omega) m W0 (by omega) (by omega) g1) keepB_t (fun W l o hl => keepB_put (m := w.heap.size + 2) (by omega) W l o (by omega)) stB_others (Below.refl _ _) (fun _ => rfl)
    (fun pre W => W.heap[w.heap.size]? = some (.cells #[.pointer (some ⟨b, 0, none⟩)] 71 (0, 0)) ∧ (∃ c, W.heap[w.heap.size + 1]? = some (.cells #[.int .i64 c] 3 (0, 0))) ∧ Lib.IsBuilder 74 5 B b (Lib.byteCells (bs ++ pre)) W ∧ Below B w W)
    (fun _ _ _ => False) ?hI ?hIx ?hIS ⟨g0, ⟨_, g1⟩, by rw [List.append_nil]; exact hbd, hb0⟩
    (fun x => { tmps := #[.pointer (some ⟨b, 0, none⟩), .int .i64 m, .pointer (some ⟨w.heap.size, 0, none⟩), undef, .int .u8 x.toNat, .int .i64 m, .func (.func 130) #[] #[.pointer (some ⟨w.heap.size + 1, 0, none⟩)], .int .u8 x.toNat, undef, undef, undef], defers := [] }) ?assign ?body ?done ?stop
  case hI =>
    rintro pre A C row ⟨h1, ⟨c, h2⟩, h3, h4⟩ hg hr
    have hnc : ∀ r, row = some r → ∃ o : Obj, A.heap[r]? = some o ∧ o.isCells = false := fun r e => (hr r e).2
    have key : ∀ (k : Nat) (v : Value) (t : TypeId), A.heap[k]? = some (Obj.cells #[v] t (0, 0)) → C.heap[k]? = some (Obj.cells #[v] t (0, 0)) := fun k v t hk =>
      (hg.block k (lt_of_block hk) (fun e => by
        obtain ⟨o, ho, hc⟩ := hnc k e.symm
        rw [ho] at hk; cases hk; cases hc)).trans hk
    exact ⟨key _ _ _ h1, ⟨c, key _ _ _ h2⟩, isBuilder_own h3 hg hnc, h4.grown hg (Nat.le_trans hBw h4.size) (fun k e => by have := (hr _ e).1; omega)⟩
  case hIx => rintro c pre A C row hf _ _; exact hf
  case hIS =>
    rintro pre A C ⟨h1, ⟨c, h2⟩, h3, h4⟩ ⟨v, rfl⟩
    exact ⟨(Below.heap_setCell _ _ _ _ (by simp)).trans h1, ⟨v, one_setCell h2⟩, isBuilder_box h3 h2, h4.setCell (p := ⟨w.heap.size + 1, 0, none⟩) (by show B ≤ w.heap.size + 1; omega) _⟩
  case assign =>
    intro l x W K hK
    gi_wp2
    exact hK
  case body =>
    rintro l pre x W ⟨r, hr⟩ ⟨h1, ⟨c, h2⟩, h3, h4⟩
    have c0 := cell_of_one h1
    have hpl : pre.length + 1 ≤ 6 := by
      have e1 := congrArg List.length hr
      have e2 := encN_len 5 m (by omega)
      simp at e1; omega
    have H1 := Lib.hid h1; have H2 := Lib.hid h2; have H3 := Lib.hid h3; have H4 := Lib.hid h4
    clear h1 h2 h3 h4 g0 g1 hb0 hW0 hz hbd hr
    gi_wp2_with (gi_at_call 113; refine (CallsIn.inRound l (callsIn_wide.2 (writeByte_any B b (Lib.byteCells (bs ++ pre)) _ _ H3.out (by rw [byteCells_len, List.length_append]; omega) (Nat.le_trans hBw H4.out.size)))).mono ?_; rintro e w' ⟨rfl, k1, k2, k3⟩)
    refine ⟨k3.others, ?_, ?_⟩
    · show _ = _
      rw [k3.same _ _ _ _ (by decide) (by decide) H2.out, H2.out]
    · refine ⟨k3.same _ _ _ _ (by decide) (by decide) H1.out, ⟨c, k3.same _ _ _ _ (by decide) (by decide) H2.out⟩, ?_, H4.out.trans k2⟩
      rw [byteCells_snoc, List.append_assoc] at k1
      exact .inr k1
  case done =>
    rintro D xs W hD rfl ⟨h1, _, h3, h4⟩ hK
    have H3 := Lib.hid h3; have H4 := Lib.hid h4; have HK := Lib.hid hK
    clear h1 h3 h4 hK
    gi_wp2
    refine ⟨by simp, .inl ⟨_, _, rfl, run_takeDeferred HK.out, ?_⟩⟩
    refine ⟨_, results_none rfl _ _ _, rfl, ?_, ?_⟩
    · exact isBuilder_own H3.out (grownBy_putObj' _ _ _) (fun r e => by cases e; exact ⟨_, HK.out, rfl⟩)
    · exact H4.out.grown (grownBy_putObj' _ _ _) (Nat.le_trans hBw H4.out.size) (fun k e => by cases e; omega)
  case stop =>
    rintro D c pre W hD hS hf hK
    exact hf.elim
end Go.Proofs.YtiphbincnnppdaaGreatDoor

namespace Go.Proofs.YtiphbincnnppdaaGreatDoor
open Go.RowKit

theorem strCells_eq (s : ByteArray) : Lib.strCells s = Lib.byteCells (toL s) := by simp [Lib.strCells, Lib.byteCells, toL]
theorem inRange_any (n : Nat) (hn : n ≤ 1099511627776) (w : World) : Calls Tryz.prog 81 #[.int .i64 n] w fun e w' => e = .returned (.bool true) ∧ w = w' := by
  have h0 : (0 : Int) ≤ (n : Int) := by omega
  have h1 : (n : Int) ≤ 1099511627776 := by omega
  go_enter Tryz.func81, Tryz.ntmps81
  go_wp2
  go_ret
  exact ⟨rfl, rfl⟩

set_option maxHeartbeats 1000000 in
theorem putInt_any (n : Nat) (hn : n ≤ 1099511627776) (w : World) :
    Calls Tryz.prog 60 #[.int .i64 n] w fun e w' => e = .returned (.tuple #[.string (ofL (encN n)), .int .i64 0]) ∧ Below w.heap.size w w' := by
  go_enter Tryz.func60, Tryz.ntmps60
  go_wp2_with (go_at_call 81; refine (inRange_any n hn _).mono ?_; rintro e w' ⟨rfl, rfl⟩)
  have hb := Lib.fresh_isBuilder 74 5 w
  refine (writeInt_any w.heap.size w.heap.size [] n _ hb (by simp) hn (by simp)).mono ?_
  rintro e w1 ⟨rfl, h1, hb1⟩
  rw [List.nil_append] at h1
  have H1 := Lib.hid h1
  have HB1 : Hid (Below w.heap.size w w1) := ((Below.refl _ w).alloc (Nat.le_refl _) _).trans hb1
  clear hb hb1 h1
  go_wp2_with fail
  refine (Tryz.Builder_String_any w.heap.size w.heap.size (encN n) _ H1.out HB1.out.size).mono ?_
  rintro e w2 ⟨rfl, hb2⟩
  have HB2 := Lib.hid (HB1.out.trans hb2); clear hb2
  go_wp2_with fail
  go_ret2
  exact ⟨rfl, HB2.out⟩

set_option maxHeartbeats 1000000 in
theorem putText_any (s : ByteArray) (hs : s.size ≤ 65536) (w : World) :
    Calls Tryz.prog 62 #[.string s] w fun e w' => e = .returned (.tuple #[.string (ofL (encT (toL s))), .int .i64 0]) ∧ Below w.heap.size w w' := by
  have hsi : ¬ (65536 : Int) < (s.size : Int) := by omega
  have hsz := size_toL s
  have HSZ := Lib.hid hsz; clear hsz
  go_enter Tryz.func62, Tryz.ntmps62
  go_wp2_with fail
  have hb := Lib.fresh_isBuilder 74 5 w
  refine (writeInt_any w.heap.size w.heap.size [] s.size _ hb (by simp) (by omega) (by simp)).mono ?_
  rintro e w1 ⟨rfl, h1, hb1⟩
  rw [List.nil_append] at h1
  have H1 := Lib.hid h1
  have HB1 : Hid (Below w.heap.size w w1) := ((Below.refl _ w).alloc (Nat.le_refl _) _).trans hb1
  clear hb hb1 h1
  go_wp2_with fail
  refine (writeString_any w.heap.size w.heap.size (Lib.byteCells (encN s.size)) s _ H1.out (by rw [byteCells_len]; have := encN_len 5 s.size (by omega); omega) HB1.out.size).mono ?_
  rintro e w2 ⟨rfl, h2, hb2, _⟩
  have H2 : Hid (Lib.IsBuilder 74 5 w.heap.size w.heap.size (Lib.byteCells (encT (toL s))) w2) := by
    refine .inr ?_
    have e1 : Lib.byteCells (encN s.size) ++ Lib.strCells s = Lib.byteCells (encT (toL s)) := by
      rw [strCells_eq]; unfold encT; rw [← HSZ.out]; simp [Lib.byteCells]
    rw [← e1]; exact h2
  have HB2 := Lib.hid (HB1.out.trans hb2)
  clear hb2 h2
  go_wp2_with fail
  refine (Tryz.Builder_String_any w.heap.size w.heap.size _ _ H2.out HB2.out.size).mono ?_
  rintro e w3 ⟨rfl, hb3⟩
  have HB3 := Lib.hid (HB2.out.trans hb3); clear hb3
  go_wp2_with fail
  go_ret2
  exact ⟨rfl, HB3.out⟩
end Go.Proofs.YtiphbincnnppdaaGreatDoor

namespace Go.Proofs.YtiphbincnnppdaaGreatDoor
open Go.RowKit Go.Shelf

theorem isBuilder_below {B b : Nat} {bs : List Value} {W W' : World} (h : Lib.IsBuilder 74 5 B b bs W) (hb : Below W.heap.size W W') : Lib.IsBuilder 74 5 B b bs W' := by
  have one : ∀ p, Lib.BuilderAt 74 5 B b p bs W → Lib.BuilderAt 74 5 B b p bs W' := by
    rintro p ⟨hB, v', hbk, hown, hne⟩
    have key : ∀ (k : Nat) (o : Obj), W.heap[k]? = some o → W'.heap[k]? = some o := fun k o hk => (hb.block k (Array.getElem?_eq_some_iff.1 hk).1).trans hk
    refine ⟨hB, v', key _ _ hbk, ⟨hown.1, ?_⟩, hne⟩
    rcases hown.2 with h0 | ⟨g, cap, cur, hv, h1, hh, h2⟩
    · exact .inl h0
    · exact .inr ⟨g, cap, cur, hv, h1, key _ _ hh, h2⟩
  rcases h with h | h
  · exact .inl (one _ h)
  · exact .inr (one _ h)
/-- Cells that are no builder and no bytes stay as they are. -/
def Kc (w w' : World) : Prop := ∀ (k : Nat) (cs : Array Value) (t : TypeId) (fr : Nat × Nat), t ≠ 5 → t ≠ 74 → w.heap[k]? = some (.cells cs t fr) → w'.heap[k]? = some (.cells cs t fr)
theorem Kc.trans {a b c : World} (h : Kc a b) (k : Kc b c) : Kc a c := fun i cs t fr h5 h9 hi => k i cs t fr h5 h9 (h i cs t fr h5 h9 hi)
theorem Kc.of_below {w w' : World} (h : Below w.heap.size w w') : Kc w w' := fun k _ _ _ _ _ hk => (h.block k (Array.getElem?_eq_some_iff.1 hk).1).trans hk
theorem Bk.kc {w w' : World} {b : Nat} {t : TypeId} {cs : Array Value} (h : Bk w b t cs) (hk : Kc w w') (h5 : t ≠ 5) (h9 : t ≠ 74) : Bk w' b t cs := hk b cs t (0, 0) h5 h9 h
theorem byteCells_app (a b : Bytes) : Lib.byteCells a ++ Lib.byteCells b = Lib.byteCells (a ++ b) := by simp [Lib.byteCells]
set_option maxHeartbeats 1000000 in
theorem number_any (B b : Nat) (bs : Bytes) (m : Nat) (w : World) (h : Lib.IsBuilder 74 5 B b (Lib.byteCells bs) w) (hBw : B ≤ w.heap.size) (hm : m ≤ 1099511627776) (hlen : bs.length ≤ 1099511627776) :
    Calls Tryz.prog 32 #[.pointer (some ⟨b, 0, none⟩), .int .i64 m] w fun e w' => e = .returned (.tuple #[]) ∧ Lib.IsBuilder 74 5 B b (Lib.byteCells (bs ++ encN m)) w' ∧ Below B w w' ∧ Kc w w' := by
  have HH := Lib.hid h; clear h
  go_enter Tryz.func32, Tryz.ntmps32
  go_wp2_with fail
  refine (putInt_any m hm _).mono ?_
  rintro e w1 ⟨rfl, hb1⟩
  have H1 := Lib.hid (isBuilder_below HH.out hb1)
  have HB1 := Lib.hid (hb1.mono hBw)
  have HK1 := Lib.hid (Kc.of_below hb1)
  have hz1 := hb1.size
  have hl6 : (encN m).length ≤ 6 := encN_len 5 m (by omega)
  clear hb1
  go_wp2_with fail
  refine (writeString_any B b (Lib.byteCells bs) (ofL (encN m)) _ H1.out (by rw [byteCells_len, size_ofL]; omega) (by omega)).mono ?_
  rintro e w2 ⟨rfl, h2, hb2, hk2⟩
  have H2 : Hid (Lib.IsBuilder 74 5 B b (Lib.byteCells (bs ++ encN m)) w2) := by
    refine .inr ?_
    rw [strCells_eq, toL_ofL, byteCells_app] at h2
    exact h2
  have HB2 := Lib.hid (HB1.out.trans hb2)
  have HK2 : Hid (Kc w w2) := HK1.out.trans hk2.same
  clear h2 hb2 hk2
  go_wp2_with fail
  go_end0
  exact ⟨rfl, H2.out, HB2.out, HK2.out⟩
set_option maxHeartbeats 1000000 in
theorem text_any (B b : Nat) (bs : Bytes) (s : ByteArray) (w : World) (h : Lib.IsBuilder 74 5 B b (Lib.byteCells bs) w) (hBw : B ≤ w.heap.size) (hs : s.size ≤ 65536) (hlen : bs.length ≤ 1099511627776) :
    Calls Tryz.prog 33 #[.pointer (some ⟨b, 0, none⟩), .string s] w fun e w' => e = .returned (.tuple #[]) ∧ Lib.IsBuilder 74 5 B b (Lib.byteCells (bs ++ encT (toL s))) w' ∧ Below B w w' ∧ Kc w w' := by
  have HH := Lib.hid h; clear h
  go_enter Tryz.func33, Tryz.ntmps33
  go_wp2_with fail
  refine (putText_any s hs _).mono ?_
  rintro e w1 ⟨rfl, hb1⟩
  have H1 := Lib.hid (isBuilder_below HH.out hb1)
  have HB1 := Lib.hid (hb1.mono hBw)
  have HK1 := Lib.hid (Kc.of_below hb1)
  have hz1 := hb1.size
  have hl6 : (encT (toL s)).length ≤ 65542 := by
    have := encN_len 5 (toL s).length (by rw [← size_toL]; omega)
    unfold encT; rw [List.length_append, ← size_toL] at *; omega
  clear hb1
  go_wp2_with fail
  refine (writeString_any B b (Lib.byteCells bs) (ofL (encT (toL s))) _ H1.out (by rw [byteCells_len, size_ofL]; omega) (by omega)).mono ?_
  rintro e w2 ⟨rfl, h2, hb2, hk2⟩
  have H2 : Hid (Lib.IsBuilder 74 5 B b (Lib.byteCells (bs ++ encT (toL s))) w2) := by
    refine .inr ?_
    rw [strCells_eq, toL_ofL, byteCells_app] at h2
    exact h2
  have HB2 := Lib.hid (HB1.out.trans hb2)
  have HK2 : Hid (Kc w w2) := HK1.out.trans hk2.same
  clear h2 hb2 hk2
  go_wp2_with fail
  go_end0
  exact ⟨rfl, H2.out, HB2.out, HK2.out⟩

def encFs (fs : List Fl) : Bytes := fs.flatMap fun f => encT (toL f.1) ++ encT (toL f.2)
def encO (fd : Bool) (msg : ByteArray) (fs : List Fl) : Bytes := encN (if fd = true then 1 else 0) ++ encT (toL msg) ++ encN fs.length ++ encFs fs
noncomputable def encOR (fd : Bool) (msg : ByteArray) (fs : List Fl) : Bytes × Int := if chkO fd msg fs = 0 then (encO fd msg fs, 0) else ([], chkO fd msg fs)
theorem labL_len {l : Bytes} (h : labL l = true) : l.length ≤ 90 := by
  unfold labL at h; simp only [Bool.and_eq_true, decide_eq_true_eq] at h; exact h.1
theorem fnB_len {s : ByteArray} (h : fnB s = true) : s.size ≤ 98 := by
  obtain ⟨a, ha, r, hr, hl⟩ := (fnB_iff s).1 h
  have h1 : ∀ a ∈ fwords, a.length ≤ 7 := by decide
  have := h1 a ha
  have h2 := labL_len hl
  rw [size_len]
  have e : s.data.toList = bl s := rfl
  rw [e, hr]; simp; omega
theorem chkF_zero : ∀ {p : Option ByteArray} {fs : List Fl}, chkF p fs = 0 → ∀ f ∈ fs, fnB f.1 = true ∧ f.2.size ≤ 65536
  | _, [], _, _, h => by cases h
  | p, g :: r, h, f, hf => by
    rw [chkF] at h
    by_cases h1 : fnB g.1 = false
    · rw [if_pos h1] at h; cases h
    · rw [if_neg h1] at h
      by_cases h2 : 65536 < g.2.size
      · rw [if_pos h2] at h; cases h
      · rw [if_neg h2] at h
        by_cases h3 : okP p g.1 = false
        · rw [if_pos h3] at h; cases h
        · rw [if_neg h3] at h
          rcases List.mem_cons.1 hf with rfl | hf
          · exact ⟨by simpa using h1, by omega⟩
          · exact chkF_zero h f hf
/-- what a valid output is like -/
theorem chkO_zero {fd : Bool} {msg : ByteArray} {fs : List Fl} (h : chkO fd msg fs = 0) : msg.size ≤ 300 ∧ fs.length ≤ 10 ∧ ∀ f ∈ fs, f.1.size ≤ 98 ∧ f.2.size ≤ 65536 := by
  unfold chkO at h
  cases fd with
  | true =>
    rw [if_pos rfl] at h
    by_cases h1 : msg.size = 0 ∨ 0 < fs.length
    · rw [if_pos h1] at h; cases h
    · rw [if_neg h1] at h
      by_cases h2 : 300 < msg.size
      · rw [if_pos h2] at h; cases h
      · have : fs = [] := List.length_eq_zero_iff.1 (by omega)
        subst this
        exact ⟨by omega, by simp, fun f hf => by cases hf⟩
  | false =>
    rw [if_neg (by decide)] at h
    by_cases h1 : msg.size ≠ 0
    · rw [if_pos h1] at h; cases h
    · rw [if_neg h1] at h
      by_cases h2 : 10 < fs.length
      · rw [if_pos h2] at h; cases h
      · rw [if_neg h2] at h
        exact ⟨by omega, by omega, fun f hf => ⟨fnB_len (chkF_zero h f hf).1, (chkF_zero h f hf).2⟩⟩
theorem encT_len (t : Bytes) (h : t.length ≤ 65536) : (encT t).length ≤ 65542 := by
  have := encN_len 5 t.length (by omega)
  unfold encT; rw [List.length_append]; omega
theorem encFs_len : ∀ {fs : List Fl}, (∀ f ∈ fs, f.1.size ≤ 98 ∧ f.2.size ≤ 65536) → (encFs fs).length ≤ fs.length * 131084
  | [], _ => by simp [encFs]
  | f :: fs, h => by
    have ih := encFs_len (fs := fs) fun g hg => h g (by simp [hg])
    have h1 := h f (by simp)
    have a1 := encT_len (toL f.1) (by rw [← size_toL]; omega)
    have a2 := encT_len (toL f.2) (by rw [← size_toL]; omega)
    unfold encFs at ih ⊢
    rw [List.flatMap_cons, List.length_append, List.length_append, List.length_cons]; omega
theorem encFs_snoc {fs : List Fl} {k : Nat} {f : Fl} (h : fs[k]? = some f) : encFs (fs.take (k + 1)) = encFs (fs.take k) ++ encT (toL f.1) ++ encT (toL f.2) := by
  rw [take_snoc h]; simp [encFs]

def EncEnd (fd : Bool) (msg : ByteArray) (fs : List Fl) (w : World) (e : Ending) (w' : World) : Prop :=
  e = .returned (.tuple #[.string (ofL (encOR fd msg fs).1), .int .i64 (encOR fd msg fs).2]) ∧ Below w.heap.size w w'
set_option maxRecDepth 100000 in
set_option maxHeartbeats 4000000 in
theorem encodeOutput_any (fd : Bool) (msg : ByteArray) (A : Option Addr) (n c B : Nat) (fs : List Fl) (w : World) (h0 : Sl w B 2 A n (flat flC fs)) (hB : B ≤ w.heap.size) (hn : n ≤ maxLen) (hfs : ∀ f ∈ fs, f.1.size ≤ maxLen) :
    Calls Tryz.prog 22 #[.agg #[.bool fd, .string msg, .slice A n c]] w (EncEnd fd msg fs w) := by
  have HL := Lib.hid (h0.len flC_len (by omega))
  obtain ⟨W, hW⟩ : ∃ W, w.alloc (.cells #[.bool fd, .string msg, .slice A n c] 50) = W := ⟨_, rfl⟩
  have HB : Hid (Below w.heap.size w W) := by rw [← hW]; exact (Below.refl w.heap.size w).alloc (Nat.le_refl _) _
  have K0 : Hid (Bk W w.heap.size 50 #[.bool fd, .string msg, .slice A n c]) := by rw [← hW]; exact Bk.new w _ _
  have zW : W.heap.size = w.heap.size + 1 := by rw [← hW]; simp
  have H0 := Lib.hid h0; have HFS := Lib.hid hfs
  have HCK := Lib.hid (checkOutput_any fd msg A n c B fs W (h0.below HB.out hB) (by omega) hn hfs)
  clear h0 hfs
  have HR : Hid (∀ r, encOR fd msg fs = r → ∀ e w', e = Ending.returned (.tuple #[.string (ofL r.1), .int .i64 r.2]) → Below w.heap.size w w' → EncEnd fd msg fs w e w') := fun r h e w' h1 h2 => by subst h; exact ⟨h1, h2⟩
  go_enter Tryz.func22, Tryz.ntmps22
  have u0 := K0.out.cell 0; have u1 := K0.out.cell 1; have u2 := K0.out.cell 2
  simp at u0 u1 u2
  go_wp2_with fail
  refine HCK.out.mono ?_
  rintro e w1 ⟨rfl, hb1⟩
  have hz1 := hb1.size
  have HB1 : Hid (Below w.heap.size w w1) := HB.out.trans (hb1.mono (by omega))
  have K1 := Lib.hid (K0.out.below hb1 (by omega))
  clear u0 u1 u2 hb1 hW HCK
  by_cases hc : chkO fd msg fs = 0
  · have HV : Hid (encOR fd msg fs = (encO fd msg fs, 0)) := by show _ = _; unfold encOR; rw [if_pos hc]
    obtain ⟨hm3, hl10, hfl⟩ := chkO_zero hc
    rw [HL.out] at hl10
    have HFL := Lib.hid hfl
    rw [hc]
    clear hc hfl
    have u0 := (K1.out.alloc (.cells #[.pointer none, .slice none 0 0] 74)).cell 0; have u1 := (K1.out.alloc (.cells #[.pointer none, .slice none 0 0] 74)).cell 1; have u2 := (K1.out.alloc (.cells #[.pointer none, .slice none 0 0] 74)).cell 2
    simp at u0 u1 u2
    have hbd := Lib.fresh_isBuilder 74 5 w1
    obtain ⟨fn, hfn⟩ : ∃ fn : Nat, (if fd = true then 1 else 0) = fn := ⟨_, rfl⟩
    have hfn1 : fn ≤ 1 := by rw [← hfn]; split <;> omega
    have HN1 := Lib.hid (number_any w1.heap.size w1.heap.size [] fn _ hbd (by simp) (by omega) (by simp))
    have HEO : Hid (encO fd msg fs = encN fn ++ encT (toL msg) ++ encN n ++ encFs fs) := by show _ = _; unfold encO; rw [hfn, HL.out]
    have HFN : Hid (fd = true → fn = 1) := fun h => by rw [← hfn, if_pos h]
    have HFN0 : Hid (fd = false → fn = 0) := fun h => by rw [← hfn, if_neg (by rw [h]; decide)]
    clear hbd hfn
    cases fd with
    | true =>
      obtain rfl : fn = 1 := HFN.out rfl
      go_wp2_with fail
      refine HN1.out.mono ?_
      rintro e w2 ⟨rfl, k2, hb2, _⟩
      rw [List.nil_append] at k2
      have hz2 : w1.heap.size + 1 ≤ w2.heap.size := by have := hb2.size; simpa using this
      have hb12 : Below w1.heap.size w1 w2 := ((Below.refl _ w1).alloc (Nat.le_refl _) _).trans hb2
      have K2 := Lib.hid (K1.out.below hb12 (by omega))
      have HB2 : Hid (Below w.heap.size w w2) := HB1.out.trans (hb12.mono (by omega))
      have HN2 := Lib.hid (text_any w1.heap.size w1.heap.size (encN 1) msg w2 k2 (by omega) (by omega) (by have := encN_len 5 1 (by omega); omega))
      clear u0 u1 u2 k2 hb2 hb12 K1 HB1 HN1
      have u0 := K2.out.cell 0; have u1 := K2.out.cell 1; have u2 := K2.out.cell 2
      simp at u0 u1 u2
      go_wp2_with fail
      refine HN2.out.mono ?_
      rintro e w3 ⟨rfl, k3, hb3, _⟩
      have hz3 := hb3.size
      have K3 := Lib.hid (K2.out.below hb3 (by omega))
      have HB3 : Hid (Below w.heap.size w w3) := HB2.out.trans (hb3.mono (by omega))
      have hl3 : (encN 1 ++ encT (toL msg)).length ≤ 70000 := by
        have h1 := encN_len 5 1 (by omega)
        have h2 := encT_len (toL msg) (by rw [← size_toL]; omega)
        rw [List.length_append]; omega
      have HN3 := Lib.hid (number_any w1.heap.size w1.heap.size (encN 1 ++ encT (toL msg)) n w3 k3 (by omega) (by omega) (by omega))
      clear u0 u1 u2 k3 hb3 K2 HB2 HN2
      have u0 := K3.out.cell 0; have u1 := K3.out.cell 1; have u2 := K3.out.cell 2
      simp at u0 u1 u2
      go_wp2_with fail
      refine HN3.out.mono ?_
      rintro e w4 ⟨rfl, k4, hb4, _⟩
      have hz4 := hb4.size
      have K4 := Lib.hid (K3.out.below hb4 (by omega))
      have HB4 : Hid (Below w.heap.size w w4) := HB3.out.trans (hb4.mono (by omega))
      have KB4 := Lib.hid k4
      have hl4 : (encN 1 ++ encT (toL msg) ++ encN n).length ≤ 80000 := by
        have h1 := encN_len 5 n (by omega)
        rw [List.length_append]; omega
      clear u0 u1 u2 k4 hb4 K3 HB3 HN3
      obtain ⟨hd, hhd⟩ : ∃ hd, encN 1 ++ encT (toL msg) ++ encN n = hd := ⟨_, rfl⟩
      rw [hhd] at KB4 hl4 HEO
      have u0 := K4.out.cell 0; have u1 := K4.out.cell 1; have u2 := K4.out.cell 2
      simp at u0 u1 u2
      clear hhd
      go_wp2_with fail
      go_loopw [28] (fun q wr => ∃ k : Nat, k ≤ n ∧ q = .int .i64 k ∧ Hid (Lib.IsBuilder 74 5 w1.heap.size w1.heap.size (Lib.byteCells (hd ++ encFs (fs.take k))) wr) ∧ Hid (Below w.heap.size w wr) ∧ w1.heap.size + 1 ≤ wr.heap.size) (fun q _ => n - (intOf q).toNat)
      case atStart => exact ⟨0, Nat.zero_le _, rfl, by show Lib.IsBuilder _ _ _ _ _ _; simp [encFs]; exact KB4.out, HB4.out, by omega⟩
      case round =>
        obtain ⟨k, hk, rfl, hKB, hBel, hwz⟩ := hrel
        by_cases hlt : k < n
        · obtain ⟨b, off, f, rfl, hb, hf, y0, y1⟩ := (H0.out.below hBel.out hB).fl hlt
          have hlz : (k : Int) < (n : Int) := by omega
          have hft := HFL.out f (List.mem_of_getElem? hf)
          have HSN := Lib.hid (encFs_snoc hf)
          have hln : (encFs (fs.take k)).length ≤ 1310840 := by
            have h1 := encFs_len (fs := fs.take k) (fun g hg => HFL.out g (List.mem_of_mem_take hg))
            rw [List.length_take] at h1
            have h2 : min k fs.length ≤ 10 := by omega
            exact Nat.le_trans h1 (Nat.mul_le_mul_right _ h2)
          obtain ⟨W5, hW5⟩ : ∃ W5, wr.alloc (.cells #[.string f.1, .string f.2] 62) = W5 := ⟨_, rfl⟩
          have HB5 : Hid (Below w.heap.size w W5) := by rw [← hW5]; exact hBel.out.alloc hBel.out.size _
          have KF : Hid (Bk W5 wr.heap.size 62 #[.string f.1, .string f.2]) := by rw [← hW5]; exact Bk.new wr _ _
          have k5 : Lib.IsBuilder 74 5 w1.heap.size w1.heap.size (Lib.byteCells (hd ++ encFs (fs.take k))) W5 := by rw [← hW5]; exact isBuilder_alloc hKB.out _
          have hz5 : W5.heap.size = wr.heap.size + 1 := by rw [← hW5]; simp
          have HN5 := Lib.hid (text_any w1.heap.size w1.heap.size (hd ++ encFs (fs.take k)) f.1 W5 k5 (by omega) (by omega) (by rw [List.length_append]; omega))
          have x0 := KF.out.cell 0; simp at x0
          have HF := Lib.hid hf
          clear k5 hf u0 u1 u2
          go_wp2_with fail
          refine HN5.out.mono ?_
          rintro e w6 ⟨rfl, k6, hb6, hk6⟩
          have hz6 := hb6.size
          have KF6 := Lib.hid (KF.out.kc hk6 (by decide) (by decide))
          have HB6 : Hid (Below w.heap.size w w6) := HB5.out.trans (hb6.mono (by omega))
          have hl6 : (encT (toL f.1)).length ≤ 65542 := encT_len _ (by rw [← size_toL]; omega)
          have HN6 := Lib.hid (text_any w1.heap.size w1.heap.size (hd ++ encFs (fs.take k) ++ encT (toL f.1)) f.2 w6 k6 (by omega) (by omega) (by rw [List.length_append, List.length_append]; omega))
          clear x0 k6 hb6 hk6 KF HB5 HN5
          have x1 := KF6.out.cell 1; simp at x1
          go_wp2_with fail
          refine HN6.out.mono ?_
          rintro e w7 ⟨rfl, k7, hb7, _⟩
          have hz7 := hb7.size
          have HB7 : Hid (Below w.heap.size w w7) := HB6.out.trans (hb7.mono (by omega))
          have KB7 : Hid (Lib.IsBuilder 74 5 w1.heap.size w1.heap.size (Lib.byteCells (hd ++ encFs (fs.take (k + 1)))) w7) := by
            show Lib.IsBuilder _ _ _ _ _ _
            rw [HSN.out, ← List.append_assoc, ← List.append_assoc]; exact k7
          clear k7 hb7
          go_wp2_with fail
          go_roundw
          case rel => exact ⟨k + 1, by omega, by go_num, KB7.out, HB7.out, by omega⟩
          case measure => simp [intOf]; omega
        · have hlz : ¬ (k : Int) < (n : Int) := by omega
          have HST := Lib.hid (Tryz.Builder_String_any w1.heap.size w1.heap.size (hd ++ encFs (fs.take k)) wr hKB.out (by omega))
          rw [List.take_of_length_le (by rw [HL.out]; omega)] at HST
          go_wp2_with fail
          refine HST.out.mono ?_
          rintro e w8 ⟨rfl, hb8⟩
          have HB8 := Lib.hid (hBel.out.trans (hb8.mono (by omega))); clear hb8
          go_wp2_with fail
          go_ret2
          exact HR.out _ HV.out _ _ (by rw [HEO.out]; rfl) HB8.out
    | false =>
      obtain rfl : fn = 0 := HFN0.out rfl
      go_wp2_with fail
      refine HN1.out.mono ?_
      rintro e w2 ⟨rfl, k2, hb2, _⟩
      rw [List.nil_append] at k2
      have hz2 : w1.heap.size + 1 ≤ w2.heap.size := by have := hb2.size; simpa using this
      have hb12 : Below w1.heap.size w1 w2 := ((Below.refl _ w1).alloc (Nat.le_refl _) _).trans hb2
      have K2 := Lib.hid (K1.out.below hb12 (by omega))
      have HB2 : Hid (Below w.heap.size w w2) := HB1.out.trans (hb12.mono (by omega))
      have HN2 := Lib.hid (text_any w1.heap.size w1.heap.size (encN 0) msg w2 k2 (by omega) (by omega) (by have := encN_len 5 0 (by omega); omega))
      clear u0 u1 u2 k2 hb2 hb12 K1 HB1 HN1
      have u0 := K2.out.cell 0; have u1 := K2.out.cell 1; have u2 := K2.out.cell 2
      simp at u0 u1 u2
      go_wp2_with fail
      refine HN2.out.mono ?_
      rintro e w3 ⟨rfl, k3, hb3, _⟩
      have hz3 := hb3.size
      have K3 := Lib.hid (K2.out.below hb3 (by omega))
      have HB3 : Hid (Below w.heap.size w w3) := HB2.out.trans (hb3.mono (by omega))
      have hl3 : (encN 0 ++ encT (toL msg)).length ≤ 70000 := by
        have h1 := encN_len 5 0 (by omega)
        have h2 := encT_len (toL msg) (by rw [← size_toL]; omega)
        rw [List.length_append]; omega
      have HN3 := Lib.hid (number_any w1.heap.size w1.heap.size (encN 0 ++ encT (toL msg)) n w3 k3 (by omega) (by omega) (by omega))
      clear u0 u1 u2 k3 hb3 K2 HB2 HN2
      have u0 := K3.out.cell 0; have u1 := K3.out.cell 1; have u2 := K3.out.cell 2
      simp at u0 u1 u2
      go_wp2_with fail
      refine HN3.out.mono ?_
      rintro e w4 ⟨rfl, k4, hb4, _⟩
      have hz4 := hb4.size
      have K4 := Lib.hid (K3.out.below hb4 (by omega))
      have HB4 : Hid (Below w.heap.size w w4) := HB3.out.trans (hb4.mono (by omega))
      have KB4 := Lib.hid k4
      have hl4 : (encN 0 ++ encT (toL msg) ++ encN n).length ≤ 80000 := by
        have h1 := encN_len 5 n (by omega)
        rw [List.length_append]; omega
      clear u0 u1 u2 k4 hb4 K3 HB3 HN3
      obtain ⟨hd, hhd⟩ : ∃ hd, encN 0 ++ encT (toL msg) ++ encN n = hd := ⟨_, rfl⟩
      rw [hhd] at KB4 hl4 HEO
      have u0 := K4.out.cell 0; have u1 := K4.out.cell 1; have u2 := K4.out.cell 2
      simp at u0 u1 u2
      clear hhd
      go_wp2_with fail
      go_loopw [28] (fun q wr => ∃ k : Nat, k ≤ n ∧ q = .int .i64 k ∧ Hid (Lib.IsBuilder 74 5 w1.heap.size w1.heap.size (Lib.byteCells (hd ++ encFs (fs.take k))) wr) ∧ Hid (Below w.heap.size w wr) ∧ w1.heap.size + 1 ≤ wr.heap.size) (fun q _ => n - (intOf q).toNat)
      case atStart => exact ⟨0, Nat.zero_le _, rfl, by show Lib.IsBuilder _ _ _ _ _ _; simp [encFs]; exact KB4.out, HB4.out, by omega⟩
      case round =>
        obtain ⟨k, hk, rfl, hKB, hBel, hwz⟩ := hrel
        by_cases hlt : k < n
        · obtain ⟨b, off, f, rfl, hb, hf, y0, y1⟩ := (H0.out.below hBel.out hB).fl hlt
          have hlz : (k : Int) < (n : Int) := by omega
          have hft := HFL.out f (List.mem_of_getElem? hf)
          have HSN := Lib.hid (encFs_snoc hf)
          have hln : (encFs (fs.take k)).length ≤ 1310840 := by
            have h1 := encFs_len (fs := fs.take k) (fun g hg => HFL.out g (List.mem_of_mem_take hg))
            rw [List.length_take] at h1
            have h2 : min k fs.length ≤ 10 := by omega
            exact Nat.le_trans h1 (Nat.mul_le_mul_right _ h2)
          obtain ⟨W5, hW5⟩ : ∃ W5, wr.alloc (.cells #[.string f.1, .string f.2] 62) = W5 := ⟨_, rfl⟩
          have HB5 : Hid (Below w.heap.size w W5) := by rw [← hW5]; exact hBel.out.alloc hBel.out.size _
          have KF : Hid (Bk W5 wr.heap.size 62 #[.string f.1, .string f.2]) := by rw [← hW5]; exact Bk.new wr _ _
          have k5 : Lib.IsBuilder 74 5 w1.heap.size w1.heap.size (Lib.byteCells (hd ++ encFs (fs.take k))) W5 := by rw [← hW5]; exact isBuilder_alloc hKB.out _
          have hz5 : W5.heap.size = wr.heap.size + 1 := by rw [← hW5]; simp
          have HN5 := Lib.hid (text_any w1.heap.size w1.heap.size (hd ++ encFs (fs.take k)) f.1 W5 k5 (by omega) (by omega) (by rw [List.length_append]; omega))
          have x0 := KF.out.cell 0; simp at x0
          have HF := Lib.hid hf
          clear k5 hf u0 u1 u2
          go_wp2_with fail
          refine HN5.out.mono ?_
          rintro e w6 ⟨rfl, k6, hb6, hk6⟩
          have hz6 := hb6.size
          have KF6 := Lib.hid (KF.out.kc hk6 (by decide) (by decide))
          have HB6 : Hid (Below w.heap.size w w6) := HB5.out.trans (hb6.mono (by omega))
          have hl6 : (encT (toL f.1)).length ≤ 65542 := encT_len _ (by rw [← size_toL]; omega)
          have HN6 := Lib.hid (text_any w1.heap.size w1.heap.size (hd ++ encFs (fs.take k) ++ encT (toL f.1)) f.2 w6 k6 (by omega) (by omega) (by rw [List.length_append, List.length_append]; omega))
          clear x0 k6 hb6 hk6 KF HB5 HN5
          have x1 := KF6.out.cell 1; simp at x1
          go_wp2_with fail
          refine HN6.out.mono ?_
          rintro e w7 ⟨rfl, k7, hb7, _⟩
          have hz7 := hb7.size
          have HB7 : Hid (Below w.heap.size w w7) := HB6.out.trans (hb7.mono (by omega))
          have KB7 : Hid (Lib.IsBuilder 74 5 w1.heap.size w1.heap.size (Lib.byteCells (hd ++ encFs (fs.take (k + 1)))) w7) := by
            show Lib.IsBuilder _ _ _ _ _ _
            rw [HSN.out, ← List.append_assoc, ← List.append_assoc]; exact k7
          clear k7 hb7
          go_wp2_with fail
          go_roundw
          case rel => exact ⟨k + 1, by omega, by go_num, KB7.out, HB7.out, by omega⟩
          case measure => simp [intOf]; omega
        · have hlz : ¬ (k : Int) < (n : Int) := by omega
          have HST := Lib.hid (Tryz.Builder_String_any w1.heap.size w1.heap.size (hd ++ encFs (fs.take k)) wr hKB.out (by omega))
          rw [List.take_of_length_le (by rw [HL.out]; omega)] at HST
          go_wp2_with fail
          refine HST.out.mono ?_
          rintro e w8 ⟨rfl, hb8⟩
          have HB8 := Lib.hid (hBel.out.trans (hb8.mono (by omega))); clear hb8
          go_wp2_with fail
          go_ret2
          exact HR.out _ HV.out _ _ (by rw [HEO.out]; rfl) HB8.out
  · have HV : Hid (encOR fd msg fs = ([], chkO fd msg fs)) := by show _ = _; unfold encOR; rw [if_neg hc]
    have hcb : (chkO fd msg fs != 0) = true := by rw [bne_iff_ne]; exact hc
    clear hc
    go_wp2_with fail
    go_ret2
    exact HR.out _ HV.out _ _ rfl HB1.out
end Go.Proofs.YtiphbincnnppdaaGreatDoor

namespace Go.Proofs.YtiphbincnnppdaaGreatDoor
open Go.RowKit

def RetI (r : Nat × Nat × Int) (w : World) (e : Ending) (w' : World) : Prop := e = .returned (.tuple #[.int .i64 r.1, .int .i64 r.2.1, .int .i64 r.2.2]) ∧ w = w'
theorem drop_byte {s : ByteArray} {k : Nat} (h : k < s.size) : (toL s).drop k = s[k] :: (toL s).drop (k + 1) := by
  rw [List.drop_eq_getElem_cons (by rw [← size_toL]; exact h)]; rfl

set_option maxRecDepth 100000 in
set_option maxHeartbeats 2000000 in
theorem getInt_any (s : ByteArray) (w : World) : Calls Tryz.prog 71 #[.string s] w (RetI (getI (toL s)) w) := by
  have HR : Hid (∀ r, getI (toL s) = r → ∀ e w', RetI r w e w' → RetI (getI (toL s)) w e w') := fun r h e w' hh => by rw [h]; exact hh
  have H0 : Hid (getI (toL s) = gi 6 0 0 1 ((toL s).drop 0)) := rfl
  go_enter Tryz.func71, Tryz.ntmps71
  go_wp2
  go_loop [5, 6, 9] (fun n u i => ∃ k a b : Nat, k ≤ 6 ∧ i = .int .i64 k ∧ n = .int .i64 a ∧ u = .int .i64 b ∧ 1 ≤ b ∧ b ≤ 128 ^ 6 ∧ Hid (b = 128 ^ k) ∧ a < b ∧ Hid (getI (toL s) = gi (6 - k) k a b ((toL s).drop k))) (fun _ _ i => 6 - (intOf i).toNat)
  case atStart => exact ⟨0, 0, 1, by omega, rfl, rfl, rfl, by omega, by omega, rfl, by omega, H0.out⟩
  case round =>
    obtain ⟨k, a, b, hk, rfl, rfl, rfl, hb1, hb2, hb, hab, hg⟩ := hrel
    by_cases hlt : k < 6
    · have hf : Hid (6 - k = 5 - k + 1) := by show _ = _; omega
      by_cases hsz : k < s.size
      · have hsz' : ¬ (s.size : Int) ≤ (k : Int) := by omega
        have hbn : Hid (128 * b = 128 ^ (k + 1)) := by show _ = _; rw [hb.out, Nat.pow_succ, Nat.mul_comm]
        have hbp : 128 * b ≤ 128 ^ 6 := by rw [hbn.out]; exact Nat.pow_le_pow_right (by omega) (by omega)
        have hst : Hid (getI (toL s) = if s[k].toNat < 128 then (if (s[k].toNat = 0 ∧ 0 < k) ∨ 1099511627776 < a + s[k].toNat * b then (0, 0, 13) else (a + s[k].toNat * b, k + 1, 0)) else gi (5 - k) (k + 1) (a + (s[k].toNat - 128) * b) (b * 128) ((toL s).drop (k + 1))) := by
          show _ = _
          rw [hg.out, hf.out, drop_byte hsz, gi]
        have hd : s[k].toNat < 256 := s[k].toNat_lt
        generalize hdd : s[k].toNat = d at *
        have hdi : (s[k].toNat : Int) = (d : Int) := by rw [hdd]
        clear hdd
        by_cases h128 : d < 128
        · obtain ⟨p, hp⟩ : ∃ p, d * b = p := ⟨_, rfl⟩
          have hpb : p ≤ 128 * b := by rw [← hp]; exact Nat.mul_le_mul_right _ (by omega)
          have hpi : (d : Int) * (b : Int) = (p : Int) := by rw [← hp]; simp
          have h128i : ¬ (128 : Int) ≤ (d : Int) := by omega
          rw [hp, if_pos h128] at hst
          clear hp
          by_cases hmx : 1099511627776 < a + p
          · have hmxi : (1099511627776 : Int) < (a : Int) + (p : Int) := by omega
            have hfin : Hid (getI (toL s) = (0, 0, 13)) := by show _ = _; rw [hst.out, if_pos (.inr hmx)]
            clear hst hg
            by_cases hd0 : d = 0
            · have hd0i : ((d : Int) == 0) = true := by rw [beq_iff_eq]; omega
              clear hd0
              by_cases hk0 : (0 : Int) < (k : Int)
              all_goals
                go_wp2
                go_ret3
                exact HR.out _ hfin.out _ _ ⟨rfl, rfl⟩
            · have hd0i : ((d : Int) == 0) = false := by rw [beq_eq_false_iff_ne]; omega
              clear hd0
              go_wp2
              go_ret3
              exact HR.out _ hfin.out _ _ ⟨rfl, rfl⟩
          · have hmxi : ¬ (1099511627776 : Int) < (a : Int) + (p : Int) := by omega
            by_cases hd0 : d = 0
            · have hd0i : ((d : Int) == 0) = true := by rw [beq_iff_eq]; omega
              by_cases hk0 : 0 < k
              · have hk0i : (0 : Int) < (k : Int) := by omega
                have hfin : Hid (getI (toL s) = (0, 0, 13)) := by show _ = _; rw [hst.out, if_pos (.inl ⟨hd0, hk0⟩)]
                clear hst hg hd0
                go_wp2
                go_ret3
                exact HR.out _ hfin.out _ _ ⟨rfl, rfl⟩
              · have hk0i : ¬ (0 : Int) < (k : Int) := by omega
                have hfin : Hid (getI (toL s) = (a + p, k + 1, 0)) := by show _ = _; rw [hst.out, if_neg (by omega)]
                clear hst hg hd0
                go_wp2
                go_ret3
                exact HR.out _ hfin.out _ _ ⟨rfl, rfl⟩
            · have hd0i : ((d : Int) == 0) = false := by rw [beq_eq_false_iff_ne]; omega
              have hfin : Hid (getI (toL s) = (a + p, k + 1, 0)) := by show _ = _; rw [hst.out, if_neg (by omega)]
              clear hst hg hd0
              go_wp2
              go_ret3
              exact HR.out _ hfin.out _ _ ⟨rfl, rfl⟩
        · obtain ⟨p, hp⟩ : ∃ p, (d - 128) * b = p := ⟨_, rfl⟩
          have hpb : p + b ≤ 128 * b := by
            have : (d - 128 + 1) * b ≤ 128 * b := Nat.mul_le_mul_right _ (by omega)
            rw [Nat.add_mul, hp] at this; omega
          have hpi : ((d : Int) - 128) * (b : Int) = (p : Int) := by
            rw [← hp, Int.natCast_mul, Int.ofNat_sub (by omega)]; rfl
          have h128i : (128 : Int) ≤ (d : Int) := by omega
          rw [hp, if_neg h128] at hst
          clear hp
          go_wp2
          go_round
          case rel => exact ⟨k + 1, a + p, b * 128, by omega, by go_num, by go_num, by go_num, by omega, by omega, by show _ = _; rw [Nat.mul_comm]; exact hbn.out, by omega, by show _ = _; rw [hst.out, show 6 - (k + 1) = 5 - k by omega]⟩
          case measure => simp [intOf]; omega
      · have hsz' : (s.size : Int) ≤ (k : Int) := by omega
        have hfin : Hid (getI (toL s) = (0, 0, 12)) := by
          show _ = _
          rw [hg.out, hf.out, List.drop_of_length_le (by rw [← size_toL]; omega), gi]
        clear hg
        go_wp2
        go_ret3
        exact HR.out _ hfin.out _ _ ⟨rfl, rfl⟩
    · have hfin : Hid (getI (toL s) = (0, 0, 13)) := by
        show _ = _
        rw [hg.out, show 6 - k = 0 by omega, gi]
      clear hg
      go_wp2
      go_ret3
      exact HR.out _ hfin.out _ _ ⟨rfl, rfl⟩
def RetT (r : Bytes × Nat × Int) (w : World) (e : Ending) (w' : World) : Prop := e = .returned (.tuple #[.string (ofL r.1), .int .i64 r.2.1, .int .i64 r.2.2]) ∧ w = w'
theorem extract_ofL (s : ByteArray) (a n : Nat) : s.extract a (a + n) = ofL (((toL s).drop a).take n) := by
  apply ByteArray.ext
  apply Array.toList_inj.1
  show (s.extract a (a + n)).data.toList = ((toL s).drop a).take n
  rw [extract_list, Nat.add_sub_cancel_left]; rfl

set_option maxRecDepth 100000 in
set_option maxHeartbeats 2000000 in
theorem getText_any (s : ByteArray) (hs : s.size ≤ maxLen) (w : World) : Calls Tryz.prog 72 #[.string s] w (RetT (getT (toL s)) w) := by
  unfold maxLen at hs
  have HR : Hid (∀ r, getT (toL s) = r → ∀ e w', RetT r w e w' → RetT (getT (toL s)) w e w') := fun r h e w' hh => by rw [h]; exact hh
  have HD : Hid (getT (toL s) = if (getI (toL s)).2.2 ≠ 0 then ([], 0, (getI (toL s)).2.2) else if 65536 < (getI (toL s)).1 then ([], 0, 13) else if (toL s).length < (getI (toL s)).2.1 + (getI (toL s)).1 then ([], 0, 12) else (((toL s).drop (getI (toL s)).2.1).take (getI (toL s)).1, (getI (toL s)).2.1 + (getI (toL s)).1, 0)) := rfl
  rw [← size_toL] at HD
  have hle := getI_le (toL s)
  rw [← size_toL] at hle
  have hmx := getI_max (toL s)
  go_enter Tryz.func72, Tryz.ntmps72
  go_wp2_with fail
  refine (getInt_any s _).mono ?_
  generalize getI (toL s) = r at *
  obtain ⟨n, k, e⟩ := r
  rintro e' w' ⟨rfl, rfl⟩
  simp only at hle hmx HD ⊢
  by_cases he : e = 0
  · subst he
    by_cases hn : 65536 < n
    · have hni : (65536 : Int) < (n : Int) := by omega
      have hfin : Hid (getT (toL s) = ([], 0, 13)) := by show _ = _; rw [HD.out, if_neg (by simp), if_pos hn]
      clear HD
      go_wp2
      go_ret3
      exact HR.out _ hfin.out _ _ ⟨rfl, rfl⟩
    · have hni : ¬ (65536 : Int) < (n : Int) := by omega
      by_cases hl : s.size < k + n
      · have hli : (s.size : Int) - (k : Int) < (n : Int) := by omega
        have hfin : Hid (getT (toL s) = ([], 0, 12)) := by show _ = _; rw [HD.out, if_neg (by simp), if_neg hn, if_pos hl]
        clear HD
        go_wp2
        go_ret3
        exact HR.out _ hfin.out _ _ ⟨rfl, rfl⟩
      · have hli : ¬ (s.size : Int) - (k : Int) < (n : Int) := by omega
        have hfin : Hid (getT (toL s) = (((toL s).drop k).take n, k + n, 0)) := by show _ = _; rw [HD.out, if_neg (by simp), if_neg hn, if_neg hl]
        have HX := Lib.hid (extract_ofL s k n)
        clear HD
        go_wp2
        go_ret3
        exact HR.out _ hfin.out _ _ ⟨by rw [← HX.out]; rfl, rfl⟩
  · have hne : (e != 0) = true := by rw [bne_iff_ne]; exact he
    have hfin : Hid (getT (toL s) = ([], 0, e)) := by show _ = _; rw [HD.out, if_pos he]
    clear HD he
    go_wp2
    go_ret3
    exact HR.out _ hfin.out _ _ ⟨rfl, rfl⟩
end Go.Proofs.YtiphbincnnppdaaGreatDoor

namespace Go.Proofs.YtiphbincnnppdaaGreatDoor
open Go.RowKit Go.Shelf

def rdN (most : Nat) (st : Bytes × Bool) : Nat × Bytes × Bool :=
  if st.2 = true ∨ (getI st.1).2.2 ≠ 0 ∨ most < (getI st.1).1 then (0, st.1, true) else ((getI st.1).1, st.1.drop (getI st.1).2.1, false)
def rdT (st : Bytes × Bool) : Bytes × Bytes × Bool :=
  if st.2 = true ∨ (getT st.1).2.2 ≠ 0 then ([], st.1, true) else ((getT st.1).1, st.1.drop (getT st.1).2.1, false)
theorem rdN_len (most : Nat) (st : Bytes × Bool) : (rdN most st).2.1.length ≤ st.1.length ∧ (rdN most st).1 ≤ most := by
  unfold rdN
  split
  · exact ⟨Nat.le_refl _, Nat.zero_le _⟩
  · rename_i h; refine ⟨by simp, ?_⟩; show (getI st.1).1 ≤ most; omega
theorem getT_len (l : Bytes) : (getT l).1.length ≤ l.length := by
  unfold getT
  split
  · simp
  · split
    · simp
    · split
      · simp
      · simp; omega
theorem rdT_len (st : Bytes × Bool) : (rdT st).2.1.length ≤ st.1.length ∧ (rdT st).1.length ≤ st.1.length := by
  unfold rdT
  split
  · exact ⟨Nat.le_refl _, Nat.zero_le _⟩
  · exact ⟨by simp, getT_len _⟩
/-- what a reading leaves -/
def RdEnd (b : Nat) (v : Value) (r : Bytes) (bad : Bool) (w : World) (e : Ending) (w' : World) : Prop :=
  e = .returned v ∧ Bk w' b 87 #[.string (ofL r), .bool bad] ∧ ∃ i u, w' = w.setCell ⟨b, i, none⟩ u
theorem extract_drop (s : ByteArray) (k : Nat) : s.extract k s.size = ofL ((toL s).drop k) := by
  apply ByteArray.ext
  apply Array.toList_inj.1
  show (s.extract k s.size).data.toList = (toL s).drop k
  rw [extract_list, size_len, List.take_of_length_le (by simp)]; rfl

set_option maxRecDepth 100000 in
set_option maxHeartbeats 2000000 in
theorem rnumber_any (b : Nat) (s : ByteArray) (bad : Bool) (most : Nat) (w : World) (hk : Bk w b 87 #[.string s, .bool bad]) (hs : s.size ≤ maxLen) :
    Calls Tryz.prog 48 #[.pointer (some ⟨b, 0, none⟩), .int .i64 most] w (RdEnd b (.int .i64 (rdN most (toL s, bad)).1) (rdN most (toL s, bad)).2.1 (rdN most (toL s, bad)).2.2 w) := by
  have hs' : s.size ≤ 9223372036854775807 := by unfold maxLen at hs; exact hs
  have HK := Lib.hid hk
  have u0 := hk.cell 0; have u1 := hk.cell 1
  simp at u0 u1
  have f0 := hk.free 0; have f1 := hk.free 1
  have HST : Hid (Bk (w.setCell ⟨b, 1, none⟩ (.bool true)) b 87 #[.string s, .bool true]) := by
    have := hk.set 1 (.bool true); show Bk _ _ _ _; simpa using this
  have HSR : Hid (∀ t, Bk (w.setCell ⟨b, 0, none⟩ (.string t)) b 87 #[.string t, .bool bad]) := fun t => by
    have := hk.set 0 (.string t); simpa using this
  have HV : Hid (∀ q, rdN most (toL s, bad) = q → ∀ e w', RdEnd b (.int .i64 q.1) q.2.1 q.2.2 w e w' → RdEnd b (.int .i64 (rdN most (toL s, bad)).1) (rdN most (toL s, bad)).2.1 (rdN most (toL s, bad)).2.2 w e w') := fun q h e w' hh => by rw [h]; exact hh
  have HD : Hid (rdN most (toL s, bad) = if bad = true ∨ (getI (toL s)).2.2 ≠ 0 ∨ most < (getI (toL s)).1 then (0, toL s, true) else ((getI (toL s)).1, (toL s).drop (getI (toL s)).2.1, false)) := rfl
  have hle := getI_le (toL s)
  rw [← size_toL] at hle
  have hmx := getI_max (toL s)
  clear hk
  go_enter Tryz.func48, Tryz.ntmps48
  go_wp2_with fail
  refine (getInt_any s _).mono ?_
  generalize getI (toL s) = r at *
  obtain ⟨n, k, e⟩ := r
  rintro e' w' ⟨rfl, rfl⟩
  simp only at hle hmx HD ⊢
  have HOL := Lib.hid (ofL_toL s)
  cases bad with
  | true =>
    have HF : Hid (rdN most (toL s, true) = (0, toL s, true)) := by show _ = _; rw [HD.out, if_pos (.inl rfl)]
    clear HD
    go_wp2_with fail
    go_ret
    exact HV.out _ HF.out _ _ ⟨rfl, by rw [HOL.out]; exact HST.out, _, _, rfl⟩
  | false =>
    by_cases he : e = 0
    · subst he
      by_cases hn : most < n
      · have hnz : (most : Int) < (n : Int) := by omega
        have HF : Hid (rdN most (toL s, false) = (0, toL s, true)) := by show _ = _; rw [HD.out, if_pos (.inr (.inr hn))]
        clear HD hn
        go_wp2_with fail
        go_ret
        exact HV.out _ HF.out _ _ ⟨rfl, by rw [HOL.out]; exact HST.out, _, _, rfl⟩
      · have hnz : ¬ (most : Int) < (n : Int) := by omega
        have HF : Hid (rdN most (toL s, false) = (n, (toL s).drop k, false)) := by show _ = _; rw [HD.out, if_neg (by simp; omega)]
        have HX := Lib.hid (extract_drop s k)
        clear HD hn
        go_wp2_with fail
        go_ret
        exact HV.out _ HF.out _ _ ⟨rfl, by rw [← HX.out]; exact HSR.out _, _, _, rfl⟩
    · have hne : (e != 0) = true := by rw [bne_iff_ne]; exact he
      have HF : Hid (rdN most (toL s, false) = (0, toL s, true)) := by show _ = _; rw [HD.out, if_pos (.inr (.inl he))]
      clear HD he
      go_wp2_with fail
      go_ret
      exact HV.out _ HF.out _ _ ⟨rfl, by rw [HOL.out]; exact HST.out, _, _, rfl⟩

set_option maxRecDepth 100000 in
set_option maxHeartbeats 2000000 in
theorem rtext_any (b : Nat) (s : ByteArray) (bad : Bool) (w : World) (hk : Bk w b 87 #[.string s, .bool bad]) (hs : s.size ≤ maxLen) :
    Calls Tryz.prog 49 #[.pointer (some ⟨b, 0, none⟩)] w (RdEnd b (.string (ofL (rdT (toL s, bad)).1)) (rdT (toL s, bad)).2.1 (rdT (toL s, bad)).2.2 w) := by
  have hs' : s.size ≤ 9223372036854775807 := by unfold maxLen at hs; exact hs
  have HK := Lib.hid hk
  have u0 := hk.cell 0; have u1 := hk.cell 1
  simp at u0 u1
  have f0 := hk.free 0; have f1 := hk.free 1
  have HST : Hid (Bk (w.setCell ⟨b, 1, none⟩ (.bool true)) b 87 #[.string s, .bool true]) := by
    have := hk.set 1 (.bool true); show Bk _ _ _ _; simpa using this
  have HSR : Hid (∀ t, Bk (w.setCell ⟨b, 0, none⟩ (.string t)) b 87 #[.string t, .bool bad]) := fun t => by
    have := hk.set 0 (.string t); simpa using this
  have HV : Hid (∀ q, rdT (toL s, bad) = q → ∀ e w', RdEnd b (.string (ofL q.1)) q.2.1 q.2.2 w e w' → RdEnd b (.string (ofL (rdT (toL s, bad)).1)) (rdT (toL s, bad)).2.1 (rdT (toL s, bad)).2.2 w e w') := fun q h e w' hh => by rw [h]; exact hh
  have HD : Hid (rdT (toL s, bad) = if bad = true ∨ (getT (toL s)).2.2 ≠ 0 then ([], toL s, true) else ((getT (toL s)).1, (toL s).drop (getT (toL s)).2.1, false)) := rfl
  have hle := getT_le (toL s)
  rw [← size_toL] at hle
  clear hk
  go_enter Tryz.func49, Tryz.ntmps49
  go_wp2_with fail
  refine (getText_any s hs _).mono ?_
  generalize getT (toL s) = r at *
  obtain ⟨n, k, e⟩ := r
  rintro e' w' ⟨rfl, rfl⟩
  simp only at hle HD ⊢
  have HOL := Lib.hid (ofL_toL s)
  cases bad with
  | true =>
    have HF : Hid (rdT (toL s, true) = ([], toL s, true)) := by show _ = _; rw [HD.out, if_pos (.inl rfl)]
    clear HD
    go_wp2_with fail
    go_ret
    exact HV.out _ HF.out _ _ ⟨rfl, by rw [HOL.out]; exact HST.out, _, _, rfl⟩
  | false =>
    by_cases he : e = 0
    · subst he
      have HF : Hid (rdT (toL s, false) = (n, (toL s).drop k, false)) := by show _ = _; rw [HD.out, if_neg (by simp)]
      have HX := Lib.hid (extract_drop s k)
      clear HD
      go_wp2_with fail
      go_ret
      exact HV.out _ HF.out _ _ ⟨rfl, by rw [← HX.out]; exact HSR.out _, _, _, rfl⟩
    · have hne : (e != 0) = true := by rw [bne_iff_ne]; exact he
      have HF : Hid (rdT (toL s, false) = ([], toL s, true)) := by show _ = _; rw [HD.out, if_pos (.inr he)]
      clear HD he
      go_wp2_with fail
      go_ret
      exact HV.out _ HF.out _ _ ⟨rfl, by rw [HOL.out]; exact HST.out, _, _, rfl⟩
end Go.Proofs.YtiphbincnnppdaaGreatDoor

namespace Go.Proofs.YtiphbincnnppdaaGreatDoor
open Go.RowKit

abbrev Out := Bool × ByteArray × List Fl
/-- s is the encoding of the valid output o -/
def DecP (s : Bytes) (o : Out) : Prop := chkO o.1 o.2.1 o.2.2 = 0 ∧ encO o.1 o.2.1 o.2.2 = s
/-- n files are read -/
def rdFs : Nat → Bytes × Bool → List Fl × Bytes × Bool
  | 0, st => ([], st)
  | n + 1, st => ((ofL (rdT st).1, ofL (rdT (rdT st).2).1) :: (rdFs n (rdT (rdT st).2).2).1, (rdFs n (rdT (rdT st).2).2).2)
/-- the files read so far, and what is left -/
def rdK : Nat → Bytes × Bool → List Fl × Bytes × Bool
  | 0, st => ([], st)
  | n + 1, st => ((rdK n st).1 ++ [(ofL (rdT (rdK n st).2).1, ofL (rdT (rdT (rdK n st).2).2).1)], (rdT (rdT (rdK n st).2).2).2)
theorem rdK_len : ∀ (n : Nat) (st : Bytes × Bool), (rdK n st).2.1.length ≤ st.1.length ∧ ((rdK n st).1).length = n ∧ ∀ f ∈ (rdK n st).1, f.1.size ≤ st.1.length ∧ f.2.size ≤ st.1.length
  | 0, st => ⟨Nat.le_refl _, rfl, fun f hf => by cases hf⟩
  | n + 1, st => by
    obtain ⟨h1, h2, h3⟩ := rdK_len n st
    have a1 := rdT_len (rdK n st).2
    have a2 := rdT_len (rdT (rdK n st).2).2
    refine ⟨by simp only [rdK]; omega, by simp [rdK, h2], fun f hf => ?_⟩
    simp only [rdK, List.mem_append, List.mem_singleton] at hf
    rcases hf with hf | rfl
    · exact h3 f hf
    · simp only [size_ofL]; omega
theorem rdN_enc {m most : Nat} (h : m ≤ most) (hm : m ≤ 1099511627776) (r : Bytes) : rdN most (encN m ++ r, false) = (m, r, false) := by
  unfold rdN
  simp only [getI_enc hm r]
  rw [if_neg (by simp; omega)]
  simp
theorem rdT_enc {t : Bytes} (h : t.length ≤ 65536) (r : Bytes) : rdT (encT t ++ r, false) = (t, r, false) := by
  unfold rdT
  simp only [getT_enc h r]
  rw [if_neg (by simp)]
  simp
theorem rdK_enc : ∀ (fs gs : List Fl) (r : Bytes), (∀ f ∈ fs, f.1.size ≤ 65536 ∧ f.2.size ≤ 65536) → ∀ st, rdK gs.length st = (gs, encFs fs ++ r, false) → rdK (gs.length + fs.length) st = (gs ++ fs, r, false)
  | [], gs, r, _, st, h => by simpa [encFs] using h
  | f :: fs, gs, r, hf, st, h => by
    have h1 := hf f (by simp)
    have e : encFs (f :: fs) ++ r = encT (toL f.1) ++ (encT (toL f.2) ++ (encFs fs ++ r)) := by simp [encFs, List.append_assoc]
    have step : rdK (gs.length + 1) st = (gs ++ [f], encFs fs ++ r, false) := by
      simp only [rdK, h, e]
      rw [rdT_enc (by rw [← size_toL]; exact h1.1)]
      simp only
      rw [rdT_enc (by rw [← size_toL]; exact h1.2)]
      simp [ofL_toL]
    have := rdK_enc fs (gs ++ [f]) r (fun g hg => hf g (by simp [hg])) st (by rw [List.length_append]; exact step)
    rw [List.length_append, List.append_assoc] at this
    rw [List.length_cons, show gs.length + (fs.length + 1) = gs.length + [f].length + fs.length by simp; omega]
    exact this
/-- reading the whole -/
def rdO (s : Bytes) : Out × Bytes × Bool :=
  let a := rdN 1 (s, false)
  let b := rdT a.2
  let c := rdN 10 b.2
  let d := rdK c.1 c.2
  ((decide (a.1 = 1), ofL b.1, d.1), d.2)
theorem rdO_enc {s : Bytes} {o : Out} (h : DecP s o) : rdO s = (o, [], false) := by
  obtain ⟨fd, msg, fs⟩ := o
  obtain ⟨h1, rfl⟩ := h
  obtain ⟨m1, m2, m3⟩ := chkO_zero h1
  simp only at m1 m2 m3 ⊢
  have e : encO fd msg fs = encN (if fd = true then 1 else 0) ++ (encT (toL msg) ++ (encN fs.length ++ (encFs fs ++ []))) := by simp [encO, List.append_assoc]
  have hfd : (if fd = true then 1 else 0) ≤ 1 := by split <;> omega
  unfold rdO
  rw [e]
  simp only
  rw [rdN_enc hfd (by omega)]
  simp only
  rw [rdT_enc (by rw [← size_toL]; omega)]
  simp only
  rw [rdN_enc m2 (by omega)]
  simp only
  have := rdK_enc fs [] [] (fun f hf => ⟨by have := m3 f hf; omega, (m3 f hf).2⟩) (encFs fs ++ [], false) rfl
  rw [List.length_nil, Nat.zero_add, List.nil_append] at this
  rw [this, ofL_toL]
  cases fd <;> simp
theorem decP_uniq {s : Bytes} {o o' : Out} (h : DecP s o) (h' : DecP s o') : o = o' := by
  have e1 := rdO_enc h
  rw [rdO_enc h'] at e1
  exact (Prod.ext_iff.1 e1).1.symm
end Go.Proofs.YtiphbincnnppdaaGreatDoor

namespace Go.Proofs.YtiphbincnnppdaaGreatDoor
open Go.RowKit

section
variable {P : Program} {w : World} {base size n c : Nat} {e : TypeId} {A : Option Addr} {xs : List Value}
theorem step_append_apd {ops : Array Oper} {o : Oper} {a : Act} {K : Act → World → Prop} {Q : Exit → Act → World → Prop} {E : Prop} (hgd : o.guard = none) (s x : Operand) (t : TypeId)
    (ho : o.op = .call { callee := .builtin .append, args := #[s, x], argTypes := #[t, t] })
    (base : Nat) (e : TypeId) (i : TypeInfo) (z : Value) (size bytes : Nat) (ht : P.underlying t = some (.slice e)) (hi : P.info? e = some i) (hz : i.zero = some z)
    (hsize : i.size = size) (hby : i.bytes = bytes) (hzs : z.cells.size = size) (hsz : 0 < size)
    (A : Option Addr) (n c : Nat) (xs : List Value) (hs : a.eval s = .slice A n c) (hown : Apd w base e size A n c xs)
    (B : Nat) (A' : Option Addr) (m c' : Nat) (ys : List Value) (hx : a.eval x = .slice A' m c') (hsl : Sl w B size A' m ys) (h1 : ∀ u ∈ ys, u.oneCell' = true)
    (h63 : n + m ≤ maxLen) (hbytes : (n + m) * bytes ≤ 140737488355328) (hbase : base ≤ w.heap.size)
    (h : ∀ A2 c2 w', Apd w' base e size A2 (n + m) c2 (xs ++ ys) → Below base w w' → n + m ≤ c2 → c2 ≤ maxLen → K (a.put o.dst (.slice A2 (n + m) c2)) w') :
    if Region.wanted o (yielded ops a.tmps) = true then Oper.wp P o a w K Q else E := by
  have hw : Region.wanted o (yielded ops a.tmps) = true := by simp [Region.wanted, hgd]
  rw [if_pos hw]
  obtain ⟨A2, c2, w', hr, ho', hg, hc1, hc2, _⟩ := run_append_apd (P := P) t o.type i z bytes ht hi hz hsize hby hzs hsz hown (c' := c') hsl h1 h63 hbytes hbase
  unfold Oper.wp
  simp [execOp, ho, resolve, invoke, builtin, hs, hx, hr, Result.andThen]
  exact h A2 c2 w' ho' hg hc1 hc2
/-- the same, onto a slice that is empty and has no capacity -/
theorem step_append_emp {ops : Array Oper} {o : Oper} {a : Act} {K : Act → World → Prop} {Q : Exit → Act → World → Prop} {E : Prop} (hgd : o.guard = none) (s x : Operand) (t : TypeId)
    (ho : o.op = .call { callee := .builtin .append, args := #[s, x], argTypes := #[t, t] })
    (base : Nat) (e : TypeId) (i : TypeInfo) (z : Value) (size bytes : Nat) (ht : P.underlying t = some (.slice e)) (hi : P.info? e = some i) (hz : i.zero = some z)
    (hsize : i.size = size) (hby : i.bytes = bytes) (hzs : z.cells.size = size) (hsz : 0 < size)
    (A : Option Addr) (hs : a.eval s = .slice A 0 0)
    (B : Nat) (A' : Option Addr) (m c' : Nat) (ys : List Value) (hx : a.eval x = .slice A' m c') (hsl : Sl w B size A' m ys) (h1 : ∀ u ∈ ys, u.oneCell' = true)
    (h63 : m ≤ maxLen) (hbytes : m * bytes ≤ 140737488355328) (hbase : base ≤ w.heap.size)
    (h : ∀ A2 c2 w', Apd w' base e size A2 m c2 ys → Below w.heap.size w w' → m ≤ c2 → c2 ≤ maxLen → K (a.put o.dst (.slice A2 m c2)) w') :
    if Region.wanted o (yielded ops a.tmps) = true then Oper.wp P o a w K Q else E := by
  have hw : Region.wanted o (yielded ops a.tmps) = true := by simp [Region.wanted, hgd]
  rw [if_pos hw]
  obtain ⟨A2, c2, w', hr, ho', hg, hc1, hc2⟩ := run_append_empty (P := P) (base := base) t o.type i z bytes ht hi hz hsize hby hzs hsz (c' := c') hsl h1 h63 hbytes hbase A
  unfold Oper.wp
  simp [execOp, ho, resolve, invoke, builtin, hs, hx, hr, Result.andThen]
  exact h A2 c2 w' ho' hg hc1 hc2
end
end Go.Proofs.YtiphbincnnppdaaGreatDoor

namespace Go.Proofs.YtiphbincnnppdaaGreatDoor
open Go.RowKit Go.Shelf

def DecEnd (s : ByteArray) (w : World) (e : Ending) (w' : World) : Prop :=
  ∃ fd msg A n c fs err, e = .returned (.tuple #[.agg #[.bool fd, .string msg, .slice A n c], .int .i64 err]) ∧ Sl w' w'.heap.size 2 A n (flat flC fs) ∧ n ≤ maxLen ∧ Below w.heap.size w w' ∧
    ((err = 0 ∧ DecP (toL s) (fd, msg, fs)) ∨ (err = 13 ∧ fd = false ∧ msg = ⟨#[]⟩ ∧ fs = [] ∧ ∀ o, ¬ DecP (toL s) o))
theorem res_cellO {fn : Func} {c i : Tmp} (h : fn.results = #[.cell c 50, .tmp i]) {w : World} {a : Array Value} {b : Nat} {x y z v : Value} (ha : a[c]?.getD undef = .pointer (some ⟨b, 0, none⟩)) (hk : Bk w b 50 #[x, y, z]) (hv : a[i]?.getD undef = v) :
    (results fn a).run Tryz.prog w = .ok (.tuple #[.agg #[x, y, z], v]) w := by
  have h0 := hk.cell 0; have h1 := hk.cell 1; have h2 := hk.cell 2
  simp at h0 h1 h2
  simp [results, h, ha, hv, go_sem, h0, h1, h2]
theorem Bk.set3 {w : World} {b : Nat} {t : TypeId} {x y z : Value} (h : Bk w b t #[x, y, z]) (x' y' z' : Value) : Bk (((w.setCell ⟨b, 0, none⟩ x').setCell ⟨b, 1, none⟩ y').setCell ⟨b, 2, none⟩ z') b t #[x', y', z'] := by
  have := ((h.set 0 x').set 1 y').set 2 z'
  simpa using this
theorem below_set3 {B b : Nat} {w w' : World} (h : Below B w w') (hb : B ≤ b) (x y z : Value) : Below B w (((w'.setCell ⟨b, 0, none⟩ x).setCell ⟨b, 1, none⟩ y).setCell ⟨b, 2, none⟩ z) :=
  ((h.setCell (p := ⟨b, 0, none⟩) hb x).setCell (p := ⟨b, 1, none⟩) hb y).setCell (p := ⟨b, 2, none⟩) hb z
theorem decEnd_no {s : ByteArray} {w w' : World} {e : Ending} (he : e = .returned (.tuple #[.agg #[.bool false, .string ⟨#[]⟩, .slice none 0 0], .int .i64 13])) (hb : Below w.heap.size w w') (hn : ∀ o, ¬ DecP (toL s) o) : DecEnd s w e w' :=
  ⟨false, ⟨#[]⟩, none, 0, 0, [], 13, he, Sl.nil _ _ _ _, Nat.zero_le _, hb, .inr ⟨rfl, rfl, rfl, rfl, hn⟩⟩
theorem infoFl : (Tryz.prog.info? 62).map (fun i => (i.zero, i.size, i.bytes)) = some (some (.agg #[.string ⟨#[]⟩, .string ⟨#[]⟩]), 2, 32) := by kernel_rfl
theorem oneCells_fl (fs : List Fl) : ∀ u ∈ flat flC fs, u.oneCell' = true := by
  intro u hu
  simp only [flat, List.mem_flatMap] at hu
  obtain ⟨f, _, hu⟩ := hu
  simp only [flC, List.mem_cons, List.mem_nil_iff, or_false] at hu
  rcases hu with rfl | rfl <;> rfl
theorem bk_size {w w' : World} {b i : Nat} {u : Value} (h : w' = w.setCell ⟨b, i, none⟩ u) : w'.heap.size = w.heap.size := by rw [h]; simp [World.setCell]
/-- what is known behind a reading within the drawn region -/
theorem armD {w w10 w11 : World} {e : Ending} {v : Value} {r1 r2 : Bytes} {b1 b2 fd : Bool} {m : ByteArray} {A : Option Addr} {k c : Nat} {fs : List Fl} {G : Prop}
    (L1 : Hid (Bk w10 w.heap.size 50 #[.bool false, .string ⟨#[]⟩, .slice none 0 0])) (_L2 : Hid (Bk w10 (w.heap.size + 1) 87 #[.string (ofL r1), .bool b1]))
    (L3 : Hid (Bk w10 (w.heap.size + 2) 50 #[.bool fd, .string m, .slice A k c])) (LA : Hid (Apd w10 (w.heap.size + 3) 62 2 A k c (flat flC fs))) (LB : Hid (Below w.heap.size w w10))
    (h : RdEnd (w.heap.size + 1) v r2 b2 w10.drew e w11)
    (hG : e = .returned v → Hid (Bk w11 w.heap.size 50 #[.bool false, .string ⟨#[]⟩, .slice none 0 0]) → Hid (Bk w11 (w.heap.size + 1) 87 #[.string (ofL r2), .bool b2]) →
      Hid (Bk w11 (w.heap.size + 2) 50 #[.bool fd, .string m, .slice A k c]) → Hid (Apd w11 (w.heap.size + 3) 62 2 A k c (flat flC fs)) → Hid (Below w.heap.size w w11) → w11.heap.size = w10.heap.size →
      G) : G := by
  obtain ⟨he, k11, i11, u11, hw11⟩ := h
  have M3 : Bk w11 (w.heap.size + 2) 50 #[.bool fd, .string m, .slice A k c] := by rw [hw11]; exact L3.out.drew.far (by simp) _
  refine hG he ?_ k11 M3 ?_ ?_ (by have := bk_size hw11; exact this)
  · rw [hw11]; exact L1.out.drew.far (by simp) _
  · rw [hw11]; exact Apd.setCell (w := w10.drew) LA.out (by simp) _
  · rw [hw11]; exact LB.out.drew.setCell (p := ⟨w.heap.size + 1, i11, none⟩) (by simp) _
set_option maxRecDepth 100000 in
set_option maxHeartbeats 4000000 in
theorem decodeOutput_any (s : ByteArray) (w : World) (hs : s.size ≤ 1000000) : Calls Tryz.prog 24 #[.string s] w (DecEnd s w) := by
  have hsm : s.size ≤ maxLen := by unfold maxLen; omega
  obtain ⟨i0, hi, hz0, hz1, hz2⟩ := info_parts infoFl
  have Hi := Lib.hid hi; have Hz0 := Lib.hid hz0; have Hz1 := Lib.hid hz1; have Hz2 := Lib.hid hz2
  clear hi hz0 hz1 hz2
  obtain ⟨W1, hW1⟩ : ∃ W, w.alloc (.cells #[.bool false, .string ⟨#[]⟩, .slice none 0 0] 50) = W := ⟨_, rfl⟩
  obtain ⟨W2, hW2⟩ : ∃ W, W1.alloc (.cells #[.string s, .bool false] 87) = W := ⟨_, rfl⟩
  obtain ⟨W3, hW3⟩ : ∃ W, W2.alloc (.cells #[.bool false, .string ⟨#[]⟩, .slice none 0 0] 50) = W := ⟨_, rfl⟩
  have z1 : W1.heap.size = w.heap.size + 1 := by rw [← hW1]; simp
  have z2 : W2.heap.size = w.heap.size + 2 := by rw [← hW2]; simp [z1]
  have z3 : W3.heap.size = w.heap.size + 3 := by rw [← hW3]; simp [z2]
  have k1 : Bk W3 w.heap.size 50 #[.bool false, .string ⟨#[]⟩, .slice none 0 0] := by rw [← hW3, ← hW2, ← hW1]; exact ((Bk.new w _ _).alloc _).alloc _
  have k2 : Bk W3 (w.heap.size + 1) 87 #[.string s, .bool false] := by
    rw [← hW3, ← hW2]
    have := (Bk.new W1 87 #[.string s, .bool false]).alloc (.cells #[.bool false, .string ⟨#[]⟩, .slice none 0 0] 50)
    rw [z1] at this; exact this
  have k3 : Bk W3 (w.heap.size + 2) 50 #[.bool false, .string ⟨#[]⟩, .slice none 0 0] := by
    rw [← hW3]
    have := Bk.new W2 50 #[.bool false, .string ⟨#[]⟩, .slice none 0 0]
    rw [z2] at this; exact this
  have HB3 : Hid (Below w.heap.size w W3) := by
    rw [← hW3, ← hW2, ← hW1]; exact (((Below.refl _ w).alloc (Nat.le_refl _) _).alloc (by simp) _).alloc (by simp; omega) _
  have K1 := Lib.hid k1; have K2 := Lib.hid k2; have K3 := Lib.hid k3
  have HN1 := Lib.hid (rnumber_any (w.heap.size + 1) s false 1 W3 k2 hsm)
  clear k1 k2 k3
  go_enter Tryz.func24, Tryz.ntmps24
  go_wp2_with fail
  refine HN1.out.mono ?_
  rintro e w4 ⟨rfl, k4, i4, u4, hw4⟩
  have ya := rdN_len 1 (toL s, false)
  generalize hA : rdN 1 (toL s, false) = a at *
  have HA := Lib.hid hA
  clear hA hW1 hW2 hW3 HN1
  obtain ⟨an, ar, ab⟩ := a
  simp only at ya k4 ⊢
  have hz4 := bk_size hw4
  have j1 : Bk w4 w.heap.size 50 #[.bool false, .string ⟨#[]⟩, .slice none 0 0] := by rw [hw4]; exact K1.out.far (by simp) _
  have j3 : Bk w4 (w.heap.size + 2) 50 #[.bool false, .string ⟨#[]⟩, .slice none 0 0] := by rw [hw4]; exact K3.out.far (by simp) _
  have HB4 : Hid (Below w.heap.size w w4) := by rw [hw4]; exact HB3.out.setCell (p := ⟨w.heap.size + 1, i4, none⟩) (by simp) _
  have hab : ((an : Int) == 1) = decide (an = 1) := by rw [Bool.eq_iff_iff, beq_iff_eq, decide_eq_true_iff]; omega
  generalize hfd : decide (an = 1) = fd at *
  have HFD := Lib.hid hfd
  clear hfd hw4 HB3 K1 K2 K3
  obtain ⟨W5, hW5⟩ : ∃ W5, w4.setCell ⟨w.heap.size + 2, 0, none⟩ (.bool fd) = W5 := ⟨_, rfl⟩
  have l1 : Bk W5 w.heap.size 50 #[.bool false, .string ⟨#[]⟩, .slice none 0 0] := by rw [← hW5]; exact j1.far (by simp) _
  have l2 : Bk W5 (w.heap.size + 1) 87 #[.string (ofL ar), .bool ab] := by rw [← hW5]; exact k4.far (by simp) _
  have l3 : Bk W5 (w.heap.size + 2) 50 #[.bool fd, .string ⟨#[]⟩, .slice none 0 0] := by rw [← hW5]; have := j3.set 0 (.bool fd); simpa using this
  have HB5 : Hid (Below w.heap.size w W5) := by rw [← hW5]; exact HB4.out.setCell (p := ⟨w.heap.size + 2, 0, none⟩) (by simp) _
  have hz5 : W5.heap.size = w.heap.size + 3 := by rw [bk_size hW5.symm, hz4, z3]
  have x0 := j3.cell 0; simp at x0
  have f0 := j3.free 0
  have hza := size_toL s
  have HN5 := Lib.hid (rtext_any (w.heap.size + 1) (ofL ar) ab W5 l2 (by rw [size_ofL]; unfold maxLen; omega))
  rw [toL_ofL] at HN5
  have L1 := Lib.hid l1; have L3 := Lib.hid l3
  clear j1 j3 k4 l1 l2 l3
  go_wp2_with fail
  refine HN5.out.mono ?_
  rintro e w6 ⟨rfl, k6, i6, u6, hw6⟩
  have yb := rdT_len (ar, ab)
  generalize hA : rdT (ar, ab) = a at *
  have HBB := Lib.hid hA
  clear hA hW5 HN5 x0 f0
  obtain ⟨bt, br, bb⟩ := a
  simp only at yb k6 ⊢
  have hz6 := bk_size hw6
  have j1 : Bk w6 w.heap.size 50 #[.bool false, .string ⟨#[]⟩, .slice none 0 0] := by rw [hw6]; exact L1.out.far (by simp) _
  have j3 : Bk w6 (w.heap.size + 2) 50 #[.bool fd, .string ⟨#[]⟩, .slice none 0 0] := by rw [hw6]; exact L3.out.far (by simp) _
  have HB6 : Hid (Below w.heap.size w w6) := by rw [hw6]; exact HB5.out.setCell (p := ⟨w.heap.size + 1, i6, none⟩) (by simp) _
  clear hw6 HB5 L1 L3
  obtain ⟨W7, hW7⟩ : ∃ W7, w6.setCell ⟨w.heap.size + 2, 1, none⟩ (.string (ofL bt)) = W7 := ⟨_, rfl⟩
  have l1 : Bk W7 w.heap.size 50 #[.bool false, .string ⟨#[]⟩, .slice none 0 0] := by rw [← hW7]; exact j1.far (by simp) _
  have l2 : Bk W7 (w.heap.size + 1) 87 #[.string (ofL br), .bool bb] := by rw [← hW7]; exact k6.far (by simp) _
  have l3 : Bk W7 (w.heap.size + 2) 50 #[.bool fd, .string (ofL bt), .slice none 0 0] := by rw [← hW7]; have := j3.set 1 (.string (ofL bt)); simpa using this
  have HB7 : Hid (Below w.heap.size w W7) := by rw [← hW7]; exact HB6.out.setCell (p := ⟨w.heap.size + 2, 1, none⟩) (by simp) _
  have hz7 : W7.heap.size = w.heap.size + 3 := by rw [bk_size hW7.symm, hz6, hz5]
  have x0 := j3.cell 1; simp at x0
  have f0 := j3.free 1
  have HN7 := Lib.hid (rnumber_any (w.heap.size + 1) (ofL br) bb 10 W7 l2 (by rw [size_ofL]; unfold maxLen; omega))
  rw [toL_ofL] at HN7
  have L1 := Lib.hid l1; have L3 := Lib.hid l3
  clear j1 j3 k6 l1 l2 l3
  go_wp2_with fail
  refine HN7.out.mono ?_
  rintro e w8 ⟨rfl, k8, i8, u8, hw8⟩
  have yc := rdN_len 10 (br, bb)
  generalize hA : rdN 10 (br, bb) = a at *
  have HC := Lib.hid hA
  clear hA hW7 HN7 x0 f0
  obtain ⟨cn, cr, cb⟩ := a
  simp only at yc k8 ⊢
  have hz8 := bk_size hw8
  have J1 : Hid (Bk w8 w.heap.size 50 #[.bool false, .string ⟨#[]⟩, .slice none 0 0]) := by rw [hw8]; exact L1.out.far (by simp) _
  have J3 : Hid (Bk w8 (w.heap.size + 2) 50 #[.bool fd, .string (ofL bt), .slice none 0 0]) := by rw [hw8]; exact L3.out.far (by simp) _
  have HB8 : Hid (Below w.heap.size w w8) := by rw [hw8]; exact HB7.out.setCell (p := ⟨w.heap.size + 1, i8, none⟩) (by simp) _
  have J2 := Lib.hid k8
  clear hw8 HB7 L1 L3 k8
  have HRO : Hid (rdO (toL s) = ((fd, ofL bt, (rdK cn (cr, cb)).1), (rdK cn (cr, cb)).2)) := by
    show _ = _
    unfold rdO
    simp only [HA.out, HBB.out, HC.out, HFD.out]
  clear HA HBB HC HFD hab HB4 HB6
  go_wp2_with fail
  go_loopw [22] (fun q wr => ∃ (k : Nat) (A : Option Addr) (c : Nat), k ≤ cn ∧ q = .int .i64 k ∧ Hid (Bk wr w.heap.size 50 #[.bool false, .string ⟨#[]⟩, .slice none 0 0]) ∧
      Hid (Bk wr (w.heap.size + 1) 87 #[.string (ofL (rdK k (cr, cb)).2.1), .bool (rdK k (cr, cb)).2.2]) ∧ Hid (Bk wr (w.heap.size + 2) 50 #[.bool fd, .string (ofL bt), .slice A k c]) ∧
      Hid (Apd wr (w.heap.size + 3) 62 2 A k c (flat flC (rdK k (cr, cb)).1)) ∧ Hid (Below w.heap.size w wr) ∧ w.heap.size + 3 ≤ wr.heap.size) (fun q _ => cn - (intOf q).toNat)
  case atStart => exact ⟨0, none, 0, Nat.zero_le _, rfl, J1.out, J2.out, J3.out, .inr ⟨rfl, rfl, rfl⟩, HB8.out, by omega⟩
  case round =>
    obtain ⟨k, A, c, hk, rfl, hK1, hK2, hK3, hAp, hBel, hwz⟩ := hrel
    by_cases hlt : k < cn
    · have hlz : (k : Int) < (cn : Int) := by omega
      have yk := rdK_len k (cr, cb)
      have HKS : Hid (rdK (k + 1) (cr, cb) = ((rdK k (cr, cb)).1 ++ [(ofL (rdT (rdK k (cr, cb)).2).1, ofL (rdT (rdT (rdK k (cr, cb)).2).2).1)], (rdT (rdT (rdK k (cr, cb)).2).2).2)) := rfl
      generalize rdK k (cr, cb) = a at *
      obtain ⟨fs, r0, b0⟩ := a
      simp only at yk hK2 hAp HKS
      have HN9 := Lib.hid (rtext_any (w.heap.size + 1) (ofL r0) b0 wr hK2.out (by rw [size_ofL]; unfold maxLen; omega))
      rw [toL_ofL] at HN9
      go_wp2_with fail
      refine HN9.out.mono ?_
      rintro e w10 ⟨rfl, k10, i10, u10, hw10⟩
      have yt := rdT_len (r0, b0)
      generalize rdT (r0, b0) = a at *
      obtain ⟨t1, r1, b1⟩ := a
      simp only at yt k10 HKS ⊢
      have hz10 := bk_size hw10
      have L1 : Hid (Bk w10 w.heap.size 50 #[.bool false, .string ⟨#[]⟩, .slice none 0 0]) := by rw [hw10]; exact hK1.out.far (by simp) _
      have L2 := Lib.hid k10
      have L3 : Hid (Bk w10 (w.heap.size + 2) 50 #[.bool fd, .string (ofL bt), .slice A k c]) := by rw [hw10]; exact hK3.out.far (by simp) _
      have LA : Hid (Apd w10 (w.heap.size + 3) 62 2 A k c (flat flC fs)) := by rw [hw10]; exact hAp.out.setCell (by simp) _
      have LB : Hid (Below w.heap.size w w10) := by rw [hw10]; exact hBel.out.setCell (p := ⟨w.heap.size + 1, i10, none⟩) (by simp) _
      clear k10 hw10 HN9 hK1 hK2 hK3 hAp hBel
      have x2 := L3.out.cell 2; simp at x2
      have HN11 := Lib.hid (rtext_any (w.heap.size + 1) (ofL r1) b1 w10.drew L2.out.drew (by rw [size_ofL]; unfold maxLen; omega))
      rw [toL_ofL] at HN11
      generalize rdT (r1, b1) = a at *
      obtain ⟨t2, r2, b2⟩ := a
      simp only at HN11 HKS
      go_wp2_with fail
      go_region_law
        (first
          | (go_simp; go_at_call 49; refine HN11.out.mono ?_; rintro e w11 hw11; refine armD L1 L2 L3 LA LB hw11 ?_; rintro rfl M1 M2 M3 MA MB hz11; have HZ11 := Lib.hid hz11; have m2 := M3.out.cell 2; have m2a := (M3.out.alloc (.cells #[.string (ofL t1), .string (ofL t2)] 62)).cell 2; simp at m2 m2a; clear hw11 hz11)
          | (refine step_append_apd (by rfl) (.tmp 29) (.tmp 34) 25 (by rfl) (w.heap.size + 3) 62 i0 _ 2 32 Tryz.underlying25 Hi.out Hz0.out Hz1.out Hz2.out rfl (by decide) A k c (flat flC fs) (by rfl) (MA.out.below ((Below.refl _ _).alloc (Nat.le_refl _) _)) _ (some ⟨w11.heap.size, 0, none⟩) 1 1 (flat flC [(ofL t1, ofL t2)]) (by rfl) (Sl.of_bk (Bk.new w11 _ _) rfl) (oneCells_fl _) (by unfold maxLen; omega) (by omega) (by have := HZ11.out; simp; omega) ?_
             intro A2 c2 w12 a12 hb12 _ _
             have P1 := Lib.hid ((M1.out.alloc _).below hb12 (by omega))
             have P2 := Lib.hid ((M2.out.alloc _).below hb12 (by omega))
             have P3 := Lib.hid ((M3.out.alloc _).below hb12 (by omega))
             have q2 := P3.out.cell 2; simp at q2
             have f2 := P3.out.free 2
             have hz12 : w.heap.size + 3 ≤ w12.heap.size := by have := hb12.size; have := HZ11.out; simp at *; omega
             have PB : Hid (Below w.heap.size w w12) := (MB.out.alloc MB.out.size _).trans (hb12.mono (by omega))
             have PA := Lib.hid a12
             clear a12 hb12))
      all_goals
        have PA' : Hid (Apd w12 (w.heap.size + 3) 62 2 A2 (k + 1) c2 (flat flC (fs ++ [(ofL t1, ofL t2)]))) := by show Apd _ _ _ _ _ _ _ _; rw [flat_append]; exact PA.out
        go_wp2_with fail
        go_roundw
        case rel =>
          refine ⟨k + 1, A2, c2, by omega, by go_num, P1.out.far (by simp) _, ?_, ?_, ?_, PB.out.setCell (p := ⟨w.heap.size + 2, 2, none⟩) (by simp) _, by have e : ∀ u, (w12.setCell ⟨w.heap.size + 2, 2, none⟩ u).heap.size = w12.heap.size := fun u => bk_size rfl; rw [e]; exact hz12⟩
          · rw [HKS.out]; exact P2.out.far (by simp) _
          · have := P3.out.set 2 (.slice A2 (k + 1) c2); show Bk _ _ _ _; simpa using this
          · rw [HKS.out]; exact PA'.out.setCell (by simp) _
        case measure => simp [intOf]; omega
    · have hlz : ¬ (k : Int) < (cn : Int) := by omega
      obtain rfl : k = cn := by omega
      have yk := rdK_len k (cr, cb)
      generalize rdK k (cr, cb) = a at *
      obtain ⟨fs, r0, b0⟩ := a
      simp only at yk hK2 hAp HRO
      have hK1' := hK1.out; have hK2' := hK2.out; have hK3' := hK3.out
      have x0 := hK2'.cell 0; have x1 := hK2'.cell 1; simp at x0 x1
      have y0 := hK3'.cell 0; have y1 := hK3'.cell 1; have y2 := hK3'.cell 2; simp at y0 y1 y2
      have v0 := hK1'.cell 0; have v1 := hK1'.cell 1; have v2 := hK1'.cell 2; simp at v0 v1 v2
      have f0 := hK1'.free 0; have f1 := hK1'.free 1; have f2 := hK1'.free 2
      clear hK1' hK2' hK3'
      have HNO : Hid (∀ o, DecP (toL s) o → o = (fd, ofL bt, fs) ∧ r0 = [] ∧ b0 = false) := fun o ho => by
        have := rdO_enc ho
        rw [HRO.out] at this
        simp only [Prod.mk.injEq] at this
        exact ⟨this.1.symm, this.2.1, this.2.2⟩
      cases b0 with
      | true =>
        have HN : Hid (∀ o, ¬ DecP (toL s) o) := fun o ho => by have := (HNO.out o ho).2.2; cases this
        go_wp2_with fail
        exact bodyPost_ret (res_cellO Tryz.results24 rfl (hK1.out.set3 _ _ _) rfl) rfl (decEnd_no rfl (below_set3 hBel.out (Nat.le_refl _) _ _ _) HN.out)
      | false =>
        have hem := str_empty (ofL r0)
        rw [size_ofL] at hem
        by_cases hr : r0.length = 0
        · rw [decide_eq_true hr] at hem
          have hr0 : r0 = [] := List.length_eq_zero_iff.1 hr
          have HNO' : Hid (∀ o, DecP (toL s) o → o = (fd, ofL bt, fs)) := fun o ho => (HNO.out o ho).1
          have HEN := Lib.hid (encodeOutput_any fd (ofL bt) A k c wr.heap.size fs wr hAp.out.sl (Nat.le_refl _) (by unfold maxLen; omega) (fun f hf => by have := (yk.2.2 f hf).1; unfold maxLen; omega))
          clear hr hr0 HNO
          go_wp2_with fail
          refine HEN.out.mono ?_
          rintro e w9 ⟨rfl, hb9⟩
          have hz9 := hb9.size
          have Q1 := Lib.hid (hK1.out.below hb9 (by omega)); have Q3 := Lib.hid (hK3.out.below hb9 (by omega))
          have QA := Lib.hid (hAp.out.below hb9)
          have QB : Hid (Below w.heap.size w w9) := hBel.out.trans (hb9.mono (by omega))
          clear x0 x1 y0 y1 y2 v0 v1 v2 f0 f1 f2 hb9 HEN hK1 hK2 hK3 hAp hBel hem
          have y0 := Q3.out.cell 0; have y1 := Q3.out.cell 1; have y2 := Q3.out.cell 2; simp at y0 y1 y2
          have v0 := Q1.out.cell 0; have v1 := Q1.out.cell 1; have v2 := Q1.out.cell 2; simp at v0 v1 v2
          have f0 := Q1.out.free 0; have f1 := Q1.out.free 1; have f2 := Q1.out.free 2
          have HEV : Hid (encOR fd (ofL bt) fs = if chkO fd (ofL bt) fs = 0 then (encO fd (ofL bt) fs, 0) else ([], chkO fd (ofL bt) fs)) := rfl
          by_cases hc : chkO fd (ofL bt) fs = 0
          · have HC := Lib.hid hc
            have hev : encOR fd (ofL bt) fs = (encO fd (ofL bt) fs, 0) := by rw [HEV.out, if_pos hc]
            rw [hev]
            clear hc hev HEV
            have hsd := str_dec (ofL (encO fd (ofL bt) fs)) s
            by_cases hq : ofL (encO fd (ofL bt) fs) = s
            · rw [decide_eq_true hq] at hsd
              have HD : Hid (DecP (toL s) (fd, ofL bt, fs)) := ⟨HC.out, by rw [← hq, toL_ofL]⟩
              clear hq
              go_wp2_with fail
              refine bodyPost_ret (res_cellO Tryz.results24 rfl (Q1.out.set3 _ _ _) rfl) rfl ?_
              exact ⟨fd, ofL bt, A, k, c, fs, 0, rfl, (((QA.out.setCell (by simp) _).setCell (by simp) _).setCell (by simp) _).sl, by unfold maxLen; omega, below_set3 QB.out (Nat.le_refl _) _ _ _, .inl ⟨rfl, HD.out⟩⟩
            · rw [decide_eq_false hq] at hsd
              have HN : Hid (∀ o, ¬ DecP (toL s) o) := fun o ho => by
                have e1 := HNO'.out o ho
                subst e1
                exact hq (by rw [ho.2, ofL_toL])
              clear hq
              go_wp2_with fail
              exact bodyPost_ret (res_cellO Tryz.results24 rfl (Q1.out.set3 _ _ _) rfl) rfl (decEnd_no rfl (below_set3 QB.out (Nat.le_refl _) _ _ _) HN.out)
          · have hev : encOR fd (ofL bt) fs = ([], chkO fd (ofL bt) fs) := by rw [HEV.out, if_neg hc]
            have hcb : (chkO fd (ofL bt) fs != 0) = true := by rw [bne_iff_ne]; exact hc
            have HN : Hid (∀ o, ¬ DecP (toL s) o) := fun o ho => by
              have e1 := HNO'.out o ho
              subst e1
              exact hc ho.1
            rw [hev]
            clear hc hev HEV
            go_wp2_with fail
            exact bodyPost_ret (res_cellO Tryz.results24 rfl (Q1.out.set3 _ _ _) rfl) rfl (decEnd_no rfl (below_set3 QB.out (Nat.le_refl _) _ _ _) HN.out)
        · rw [decide_eq_false hr] at hem
          have HN : Hid (∀ o, ¬ DecP (toL s) o) := fun o ho => by have := (HNO.out o ho).2.1; rw [this] at hr; exact hr rfl
          clear hr
          go_wp2_with fail
          exact bodyPost_ret (res_cellO Tryz.results24 rfl (hK1.out.set3 _ _ _) rfl) rfl (decEnd_no rfl (below_set3 hBel.out (Nat.le_refl _) _ _ _) HN.out)
end Go.Proofs.YtiphbincnnppdaaGreatDoor

namespace Go.Proofs.YtiphbincnnppdaaGreatDoor
open Go.RowKit

set_option maxRecDepth 100000 in
set_option maxHeartbeats 2000000 in
theorem refGetInt_any (s : ByteArray) (w : World) : Calls Tryz.prog 73 #[.string s] w (RetI (getI (toL s)) w) := by
  have HR : Hid (∀ r, getI (toL s) = r → ∀ e w', RetI r w e w' → RetI (getI (toL s)) w e w') := fun r h e w' hh => by rw [h]; exact hh
  have H0 : Hid (getI (toL s) = gi 6 0 0 1 ((toL s).drop 0)) := rfl
  go_enter Tryz.func73, Tryz.ntmps73
  go_wp2
  go_loop [5, 6, 7] (fun n u i => ∃ k a b : Nat, k ≤ 6 ∧ k ≤ s.size ∧ i = .int .i64 k ∧ n = .int .i64 a ∧ u = .int .i64 b ∧ 1 ≤ b ∧ b ≤ 128 ^ 6 ∧ Hid (b = 128 ^ k) ∧ a < b ∧ Hid (getI (toL s) = gi (6 - k) k a b ((toL s).drop k))) (fun _ _ i => 6 - (intOf i).toNat)
  case atStart => exact ⟨0, 0, 1, by omega, by omega, rfl, rfl, rfl, by omega, by omega, rfl, by omega, H0.out⟩
  case round =>
    obtain ⟨k, a, b, hk, hks, rfl, rfl, rfl, hb1, hb2, hb, hab, hg⟩ := hrel
    by_cases hlt : k < 6
    · have hf : Hid (6 - k = 5 - k + 1) := by show _ = _; omega
      by_cases hsz : k < s.size
      · have hsz' : ((k : Int) == (s.size : Int)) = false := by rw [beq_eq_false_iff_ne]; omega
        have hbn : Hid (128 * b = 128 ^ (k + 1)) := by show _ = _; rw [hb.out, Nat.pow_succ, Nat.mul_comm]
        have hbp : 128 * b ≤ 128 ^ 6 := by rw [hbn.out]; exact Nat.pow_le_pow_right (by omega) (by omega)
        have hst : Hid (getI (toL s) = if s[k].toNat < 128 then (if (s[k].toNat = 0 ∧ 0 < k) ∨ 1099511627776 < a + s[k].toNat * b then (0, 0, 13) else (a + s[k].toNat * b, k + 1, 0)) else gi (5 - k) (k + 1) (a + (s[k].toNat - 128) * b) (b * 128) ((toL s).drop (k + 1))) := by
          show _ = _
          rw [hg.out, hf.out, drop_byte hsz, gi]
        have hd : s[k].toNat < 256 := s[k].toNat_lt
        generalize hdd : s[k].toNat = d at *
        have hdi : (s[k].toNat : Int) = (d : Int) := by rw [hdd]
        clear hdd
        by_cases h128 : d < 128
        · obtain ⟨p, hp⟩ : ∃ p, d * b = p := ⟨_, rfl⟩
          have hpb : p ≤ 128 * b := by rw [← hp]; exact Nat.mul_le_mul_right _ (by omega)
          have hpi : (b : Int) * (d : Int) = (p : Int) := by rw [← hp, Int.natCast_mul, Int.mul_comm]
          have hmd : (d : Int) % 128 = (d : Int) := by omega
          have h128i : (d : Int) < 128 := by omega
          rw [hp, if_pos h128] at hst
          clear hp
          by_cases hmx : 1099511627776 < a + p
          · have hmxi : (1099511627776 : Int) < (a : Int) + (p : Int) := by omega
            have hfin : Hid (getI (toL s) = (0, 0, 13)) := by show _ = _; rw [hst.out, if_pos (.inr hmx)]
            clear hst hg
            by_cases hd0 : d = 0
            · have hd0i : ((d : Int) == 0) = true := by rw [beq_iff_eq]; omega
              clear hd0
              by_cases hk0 : (0 : Int) < (k : Int)
              all_goals
                go_wp2
                go_ret3
                exact HR.out _ hfin.out _ _ ⟨rfl, rfl⟩
            · have hd0i : ((d : Int) == 0) = false := by rw [beq_eq_false_iff_ne]; omega
              clear hd0
              go_wp2
              go_ret3
              exact HR.out _ hfin.out _ _ ⟨rfl, rfl⟩
          · have hmxi : ¬ (1099511627776 : Int) < (a : Int) + (p : Int) := by omega
            by_cases hd0 : d = 0
            · have hd0i : ((d : Int) == 0) = true := by rw [beq_iff_eq]; omega
              by_cases hk0 : 0 < k
              · have hk0i : (0 : Int) < (k : Int) := by omega
                have hfin : Hid (getI (toL s) = (0, 0, 13)) := by show _ = _; rw [hst.out, if_pos (.inl ⟨hd0, hk0⟩)]
                clear hst hg hd0
                go_wp2
                go_ret3
                exact HR.out _ hfin.out _ _ ⟨rfl, rfl⟩
              · have hk0i : ¬ (0 : Int) < (k : Int) := by omega
                have hfin : Hid (getI (toL s) = (a + p, k + 1, 0)) := by show _ = _; rw [hst.out, if_neg (by omega)]
                clear hst hg hd0
                go_wp2
                go_ret3
                exact HR.out _ hfin.out _ _ ⟨rfl, rfl⟩
            · have hd0i : ((d : Int) == 0) = false := by rw [beq_eq_false_iff_ne]; omega
              have hfin : Hid (getI (toL s) = (a + p, k + 1, 0)) := by show _ = _; rw [hst.out, if_neg (by omega)]
              clear hst hg hd0
              by_cases hk0 : (0 : Int) < (k : Int)
              all_goals
                go_wp2
                go_ret3
                exact HR.out _ hfin.out _ _ ⟨rfl, rfl⟩
        · obtain ⟨p, hp⟩ : ∃ p, (d - 128) * b = p := ⟨_, rfl⟩
          have hpb : p + b ≤ 128 * b := by
            have : (d - 128 + 1) * b ≤ 128 * b := Nat.mul_le_mul_right _ (by omega)
            rw [Nat.add_mul, hp] at this; omega
          have hpi : (b : Int) * ((d : Int) - 128) = (p : Int) := by
            rw [← hp, Int.natCast_mul, Int.ofNat_sub (by omega), Int.mul_comm]; rfl
          have hmd : (d : Int) % 128 = (d : Int) - 128 := by omega
          have h128i : ¬ (d : Int) < 128 := by omega
          rw [hp, if_neg h128] at hst
          clear hp
          go_wp2
          go_round
          case rel => exact ⟨k + 1, a + p, b * 128, by omega, by omega, by go_num, by go_num, by go_num, by omega, by omega, by show _ = _; rw [Nat.mul_comm]; exact hbn.out, by omega, by show _ = _; rw [hst.out, show 6 - (k + 1) = 5 - k by omega]⟩
          case measure => simp [intOf]; omega
      · have hsz' : ((k : Int) == (s.size : Int)) = true := by rw [beq_iff_eq]; omega
        have hfin : Hid (getI (toL s) = (0, 0, 12)) := by
          show _ = _
          rw [hg.out, hf.out, List.drop_of_length_le (by rw [← size_toL]; omega), gi]
        clear hg
        go_wp2
        go_ret3
        exact HR.out _ hfin.out _ _ ⟨rfl, rfl⟩
    · have hfin : Hid (getI (toL s) = (0, 0, 13)) := by
        show _ = _
        rw [hg.out, show 6 - k = 0 by omega, gi]
      clear hg
      go_wp2
      go_ret3
      exact HR.out _ hfin.out _ _ ⟨rfl, rfl⟩

set_option maxRecDepth 100000 in
set_option maxHeartbeats 2000000 in
theorem refGetText_any (s : ByteArray) (hs : s.size ≤ maxLen) (w : World) : Calls Tryz.prog 74 #[.string s] w (RetT (getT (toL s)) w) := by
  unfold maxLen at hs
  have HR : Hid (∀ r, getT (toL s) = r → ∀ e w', RetT r w e w' → RetT (getT (toL s)) w e w') := fun r h e w' hh => by rw [h]; exact hh
  have HD : Hid (getT (toL s) = if (getI (toL s)).2.2 ≠ 0 then ([], 0, (getI (toL s)).2.2) else if 65536 < (getI (toL s)).1 then ([], 0, 13) else if (toL s).length < (getI (toL s)).2.1 + (getI (toL s)).1 then ([], 0, 12) else (((toL s).drop (getI (toL s)).2.1).take (getI (toL s)).1, (getI (toL s)).2.1 + (getI (toL s)).1, 0)) := rfl
  rw [← size_toL] at HD
  have hle := getI_le (toL s)
  rw [← size_toL] at hle
  have hmx := getI_max (toL s)
  go_enter Tryz.func74, Tryz.ntmps74
  go_wp2_with fail
  refine (refGetInt_any s _).mono ?_
  generalize getI (toL s) = r at *
  obtain ⟨n, k, e⟩ := r
  rintro e' w' ⟨rfl, rfl⟩
  simp only at hle hmx HD ⊢
  by_cases he : e = 0
  · subst he
    by_cases hn : 65536 < n
    · have hni : (65536 : Int) < (n : Int) := by omega
      have hfin : Hid (getT (toL s) = ([], 0, 13)) := by show _ = _; rw [HD.out, if_neg (by simp), if_pos hn]
      clear HD
      go_wp2
      go_ret3
      exact HR.out _ hfin.out _ _ ⟨rfl, rfl⟩
    · have hni : ¬ (65536 : Int) < (n : Int) := by omega
      by_cases hl : s.size < k + n
      · have hli : (s.size : Int) - (k : Int) < (n : Int) := by omega
        have hfin : Hid (getT (toL s) = ([], 0, 12)) := by show _ = _; rw [HD.out, if_neg (by simp), if_neg hn, if_pos hl]
        clear HD
        go_wp2
        go_ret3
        exact HR.out _ hfin.out _ _ ⟨rfl, rfl⟩
      · have hli : ¬ (s.size : Int) - (k : Int) < (n : Int) := by omega
        have hfin : Hid (getT (toL s) = (((toL s).drop k).take n, k + n, 0)) := by show _ = _; rw [HD.out, if_neg (by simp), if_neg hn, if_neg hl]
        have HX := Lib.hid (extract_ofL s k n)
        clear HD
        go_wp2
        go_ret3
        exact HR.out _ hfin.out _ _ ⟨by rw [← HX.out]; rfl, rfl⟩
  · have hne : (e != 0) = true := by rw [bne_iff_ne]; exact he
    have hfin : Hid (getT (toL s) = ([], 0, e)) := by show _ = _; rw [HD.out, if_pos he]
    clear HD he
    go_wp2
    go_ret3
    exact HR.out _ hfin.out _ _ ⟨rfl, rfl⟩
end Go.Proofs.YtiphbincnnppdaaGreatDoor

namespace Go.Proofs.YtiphbincnnppdaaGreatDoor
open Go.RowKit

def rrN (st : Bytes × Bool) : Nat × Bytes × Bool := if (getI st.1).2.2 ≠ 0 then (0, [], true) else ((getI st.1).1, st.1.drop (getI st.1).2.1, st.2)
def rrT (st : Bytes × Bool) : Bytes × Bytes × Bool := if (getT st.1).2.2 ≠ 0 then ([], [], true) else ((getT st.1).1, st.1.drop (getT st.1).2.1, st.2)
theorem rrN_len (st : Bytes × Bool) : (rrN st).2.1.length ≤ st.1.length ∧ (rrN st).1 ≤ 1099511627776 := by
  unfold rrN
  split
  · exact ⟨Nat.zero_le _, Nat.zero_le _⟩
  · exact ⟨by simp, getI_max _⟩
theorem rrT_len (st : Bytes × Bool) : (rrT st).2.1.length ≤ st.1.length ∧ (rrT st).1.length ≤ st.1.length := by
  unfold rrT
  split
  · exact ⟨Nat.zero_le _, Nat.zero_le _⟩
  · exact ⟨by simp, getT_len _⟩
theorem res_cellR {fn : Func} {c i : Tmp} (h : fn.results = #[.cell c 90, .tmp i]) {w : World} {a : Array Value} {b : Nat} {x y v : Value} (ha : a[c]?.getD undef = .pointer (some ⟨b, 0, none⟩)) (hk : Bk w b 90 #[x, y]) (hv : a[i]?.getD undef = v) :
    (results fn a).run Tryz.prog w = .ok (.tuple #[.agg #[x, y], v]) w := by
  have h0 := hk.cell 0; have h1 := hk.cell 1
  simp at h0 h1
  simp [results, h, ha, hv, go_sem, h0, h1]
def RrEnd (v : Value) (r : Bytes) (bad : Bool) (w : World) (e : Ending) (w' : World) : Prop := e = .returned (.tuple #[.agg #[.string (ofL r), .bool bad], v]) ∧ Below w.heap.size w w'
set_option maxRecDepth 100000 in
set_option maxHeartbeats 2000000 in
theorem rrnumber_any (s : ByteArray) (bad : Bool) (w : World) (hs : s.size ≤ maxLen) :
    Calls Tryz.prog 50 #[.agg #[.string s, .bool bad]] w (RrEnd (.int .i64 (rrN (toL s, bad)).1) (rrN (toL s, bad)).2.1 (rrN (toL s, bad)).2.2 w) := by
  have hs' : s.size ≤ 9223372036854775807 := by unfold maxLen at hs; exact hs
  obtain ⟨W, hW⟩ : ∃ W, (w.alloc (.cells #[.string s, .bool bad] 90)).alloc (.cells #[.string ⟨#[]⟩, .bool false] 90) = W := ⟨_, rfl⟩
  have K0 : Hid (Bk W w.heap.size 90 #[.string s, .bool bad]) := by rw [← hW]; exact (Bk.new w _ _).alloc _
  have K1 : Hid (Bk W (w.heap.size + 1) 90 #[.string ⟨#[]⟩, .bool false]) := by
    rw [← hW]
    have := Bk.new (w.alloc (.cells #[.string s, .bool bad] 90)) 90 #[.string ⟨#[]⟩, .bool false]
    rw [World.size_alloc] at this
    exact this
  have HB : Hid (Below w.heap.size w W) := by rw [← hW]; exact ((Below.refl _ w).alloc (Nat.le_refl _) _).alloc (by simp) _
  have u0 := K0.out.cell 0; have u1 := K0.out.cell 1; have v0 := K1.out.cell 0; have v1 := K1.out.cell 1
  simp at u0 u1 v0 v1
  have f0 := K1.out.free 0; have f1 := K1.out.free 1
  have HV : Hid (∀ q, rrN (toL s, bad) = q → ∀ e w', RrEnd (.int .i64 q.1) q.2.1 q.2.2 w e w' → RrEnd (.int .i64 (rrN (toL s, bad)).1) (rrN (toL s, bad)).2.1 (rrN (toL s, bad)).2.2 w e w') := fun q h e w' hh => by rw [h]; exact hh
  have HD : Hid (rrN (toL s, bad) = if (getI (toL s)).2.2 ≠ 0 then (0, [], true) else ((getI (toL s)).1, (toL s).drop (getI (toL s)).2.1, bad)) := rfl
  have hle := getI_le (toL s)
  rw [← size_toL] at hle
  go_enter Tryz.func50, Tryz.ntmps50
  go_wp2_with fail
  refine (refGetInt_any s _).mono ?_
  generalize getI (toL s) = r at *
  obtain ⟨n, k, e⟩ := r
  rintro e' w' ⟨rfl, rfl⟩
  simp only at hle HD ⊢
  by_cases he : e = 0
  · subst he
    have HF : Hid (rrN (toL s, bad) = (n, (toL s).drop k, bad)) := by show _ = _; rw [HD.out, if_neg (by simp)]
    have HX := Lib.hid (extract_drop s k)
    clear HD
    have hkz : (0 : Int) ≤ (k : Int) := by omega
    have hkz2 : (k : Int) ≤ (s.size : Int) := by omega
    go_wp2_with fail
    go_region
    go_wp2_with fail
    refine bodyPost_ret (res_cellR Tryz.results50 rfl (K1.out.drew.set2 _ _) rfl) rfl ?_
    exact HV.out _ HF.out _ _ ⟨by rw [← HX.out]; rfl, below_set2 HB.out.drew (by simp) _ _⟩
  · have hne : (e != 0) = true := by rw [bne_iff_ne]; exact he
    have HF : Hid (rrN (toL s, bad) = (0, [], true)) := by show _ = _; rw [HD.out, if_pos he]
    clear HD he
    go_wp2_with fail
    refine bodyPost_ret (res_cellR Tryz.results50 rfl (K1.out.set2 _ _) rfl) rfl ?_
    exact HV.out _ HF.out _ _ ⟨rfl, below_set2 HB.out (by simp) _ _⟩
set_option maxRecDepth 100000 in
set_option maxHeartbeats 2000000 in
theorem rrtext_any (s : ByteArray) (bad : Bool) (w : World) (hs : s.size ≤ maxLen) :
    Calls Tryz.prog 51 #[.agg #[.string s, .bool bad]] w (RrEnd (.string (ofL (rrT (toL s, bad)).1)) (rrT (toL s, bad)).2.1 (rrT (toL s, bad)).2.2 w) := by
  have hs' : s.size ≤ 9223372036854775807 := by unfold maxLen at hs; exact hs
  obtain ⟨W, hW⟩ : ∃ W, (w.alloc (.cells #[.string s, .bool bad] 90)).alloc (.cells #[.string ⟨#[]⟩, .bool false] 90) = W := ⟨_, rfl⟩
  have K0 : Hid (Bk W w.heap.size 90 #[.string s, .bool bad]) := by rw [← hW]; exact (Bk.new w _ _).alloc _
  have K1 : Hid (Bk W (w.heap.size + 1) 90 #[.string ⟨#[]⟩, .bool false]) := by
    rw [← hW]
    have := Bk.new (w.alloc (.cells #[.string s, .bool bad] 90)) 90 #[.string ⟨#[]⟩, .bool false]
    rw [World.size_alloc] at this
    exact this
  have HB : Hid (Below w.heap.size w W) := by rw [← hW]; exact ((Below.refl _ w).alloc (Nat.le_refl _) _).alloc (by simp) _
  have u0 := K0.out.cell 0; have u1 := K0.out.cell 1; have v0 := K1.out.cell 0; have v1 := K1.out.cell 1
  simp at u0 u1 v0 v1
  have f0 := K1.out.free 0; have f1 := K1.out.free 1
  have HV : Hid (∀ q, rrT (toL s, bad) = q → ∀ e w', RrEnd (.string (ofL q.1)) q.2.1 q.2.2 w e w' → RrEnd (.string (ofL (rrT (toL s, bad)).1)) (rrT (toL s, bad)).2.1 (rrT (toL s, bad)).2.2 w e w') := fun q h e w' hh => by rw [h]; exact hh
  have HD : Hid (rrT (toL s, bad) = if (getT (toL s)).2.2 ≠ 0 then ([], [], true) else ((getT (toL s)).1, (toL s).drop (getT (toL s)).2.1, bad)) := rfl
  have hle := getT_le (toL s)
  rw [← size_toL] at hle
  go_enter Tryz.func51, Tryz.ntmps51
  go_wp2_with fail
  refine (refGetText_any s hs _).mono ?_
  generalize getT (toL s) = r at *
  obtain ⟨n, k, e⟩ := r
  rintro e' w' ⟨rfl, rfl⟩
  simp only at hle HD ⊢
  by_cases he : e = 0
  · subst he
    have HF : Hid (rrT (toL s, bad) = (n, (toL s).drop k, bad)) := by show _ = _; rw [HD.out, if_neg (by simp)]
    have HX := Lib.hid (extract_drop s k)
    clear HD
    have hkz : (0 : Int) ≤ (k : Int) := by omega
    have hkz2 : (k : Int) ≤ (s.size : Int) := by omega
    go_wp2_with fail
    go_region
    go_wp2_with fail
    refine bodyPost_ret (res_cellR Tryz.results51 rfl (K1.out.drew.set2 _ _) rfl) rfl ?_
    exact HV.out _ HF.out _ _ ⟨by rw [← HX.out]; rfl, below_set2 HB.out.drew (by simp) _ _⟩
  · have hne : (e != 0) = true := by rw [bne_iff_ne]; exact he
    have HF : Hid (rrT (toL s, bad) = ([], [], true)) := by show _ = _; rw [HD.out, if_pos he]
    clear HD he
    go_wp2_with fail
    refine bodyPost_ret (res_cellR Tryz.results51 rfl (K1.out.set2 _ _) rfl) rfl ?_
    exact HV.out _ HF.out _ _ ⟨rfl, below_set2 HB.out (by simp) _ _⟩
end Go.Proofs.YtiphbincnnppdaaGreatDoor
