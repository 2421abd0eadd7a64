/-
  strings.SplitSeq at a slash, and refs.isName: it answers `nameB`.
-/
import Derived.Test.YtikmiabncbhioaaDoorSplit
import Derived.Test.YtikmiabncbhioaaDoorRange
import Derived.Test.YtikmiabncbhioaaDoorShelf
import Derived.Lib.IndexLaws
namespace Go.Proofs.YtikmiabncbhioaaDoor
open Go.RowKit Go.Shelf
attribute [local go_sem] Oper.semAt_some

/-- The three blocks from lo on are as they were. -/
def KeepR (lo : Nat) (A B : World) : Prop := ∀ k, lo ≤ k → k < lo + 3 → B.heap[k]? = A.heap[k]?
theorem keepR_t {lo : Nat} {A B C : World} (h : KeepR lo A B) (k : KeepR lo B C) : KeepR lo A C := fun i h1 h2 => (k i h1 h2).trans (h i h1 h2)
theorem keepR_put {lo m : Nat} (h : lo + 3 ≤ m) (W : World) (l : Nat) (o : Obj) (hl : m ≤ l) : KeepR lo W (W.putObj l o) := fun k _ h2 => World.putObj_heap_other (by omega)
/-- The iterator's own step: it stores the rest of the string. -/
def StS (lo : Nat) (A B : World) : Prop := ∃ v, B = A.setCell ⟨lo, 0, none⟩ (.string v)
theorem stS_others {lo : Nat} (A B : World) (h : StS lo A B) : KeepsOthers A B := by
  obtain ⟨v, rfl⟩ := h
  exact KeepsOthers.setCell _ _ _

def lenAt (lo : Nat) (w : World) : Nat := match w.cell? ⟨lo, 0, none⟩ with
  | some (.string s) => s.size
  | _ => 0
theorem lenAt_eq {lo : Nat} {w : World} {s : ByteArray} (h : w.heap[lo]? = some (.cells #[.string s] 9 (0, 0))) : lenAt lo w = s.size := by
  have := cell_of_one h
  simp [lenAt, this]

theorem split_at {l : List UInt8} {i : Nat} (h : Lib.indexByte l 47 = i) : splitS l = l.take i :: splitS (l.drop (i + 1)) := by
  obtain ⟨h1, h2⟩ := Lib.indexByte_some h
  have hi := (List.getElem?_eq_some_iff.1 h1).1
  have e : l = l.take i ++ 47 :: l.drop (i + 1) := by
    conv => lhs; rw [← List.take_append_drop i l]
    congr 1
    rw [List.drop_eq_getElem_cons hi]
    congr 1
    exact (List.getElem?_eq_some_iff.1 h1).2
  conv => lhs; rw [e]
  refine splitS_seg _ _ fun c hc e => ?_
  subst e
  obtain ⟨j, hj, hv⟩ := List.getElem_of_mem hc
  have hj' : j < i := by simp at hj; omega
  apply h2 j hj'
  rw [← hv, List.getElem_take]
  exact List.getElem?_eq_getElem _
theorem split_none {l : List UInt8} (h : Lib.indexByte l 47 = -1) : splitS l = [l] := by
  refine splitS_last _ fun c hc e => ?_
  subst e
  obtain ⟨j, hj, hv⟩ := List.getElem_of_mem hc
  exact Lib.indexByte_none h j (by rw [← hv]; exact List.getElem?_eq_getElem _)

def bl (s : ByteArray) : List UInt8 := s.data.toList

set_option maxRecDepth 100000 in
set_option maxHeartbeats 1000000 in
theorem split1_st (n lo : Nat) (hn : 1 ≤ n) (s : ByteArray) (w : World) (hs : s.size ≤ 9223372036854775807) (hlo : lo + 3 ≤ w.heap.size)
    (h0 : w.heap[lo]? = some (.cells #[.string s] 9 (0, 0))) (h1 : w.heap[lo + 1]? = some (.cells #[.string ⟨#[47]⟩] 9 (0, 0))) (h2 : w.heap[lo + 2]? = some (.cells #[.int .i64 0] 3 (0, 0))) :
    SeqSt Fence.wide n Tryd.prog 84 #[.pointer (some ⟨lo + 1, 0, none⟩), .pointer (some ⟨lo, 0, none⟩), .pointer (some ⟨lo + 2, 0, none⟩)] (fun x : ByteArray => #[.string x]) (KeepR lo) (StS lo)
      (fun xs => xs.map bl = splitS (bl s)) (fun pre => ∃ r, pre.map bl ++ r = splitS (bl s)) w := fun l J Jx W hW hJ hY hJ0 => by
  have g0 : W.heap[lo]? = some (.cells #[.string s] 9 (0, 0)) := (hW.block lo (by omega)).trans h0
  have g1 : W.heap[lo + 1]? = some (.cells #[.string ⟨#[47]⟩] 9 (0, 0)) := (hW.block (lo + 1) (by omega)).trans h1
  have g2 : W.heap[lo + 2]? = some (.cells #[.int .i64 0] 3 (0, 0)) := (hW.block (lo + 2) (by omega)).trans h2
  clear hW h0 h1 h2
  have c1 := cell_of_one g1
  have G0 := Lib.hid g0; have G1 := Lib.hid g1; have G2 := Lib.hid g2; have HJ := Lib.hid hJ; have HY := Lib.hid hY; have HJ0 := Lib.hid hJ0
  clear g0 g1 g2 hJ hY hJ0
  refine callsIn_of_wp Tryd.func84 rfl trivial ?_ rfl
  simp only [Tryd.ntmps84, List.size_toArray, List.length_cons, List.length_nil, Nat.reduceAdd, Nat.reduceSub, Array.replicate_succ, Array.replicate_zero, List.push_toArray, List.append_toArray, List.nil_append, List.cons_append]
  gi_wp2_with fail
  gi_loopw [7, 8] (fun _ _ wr => ∃ (pre : List ByteArray) (cur : ByteArray), cur.size ≤ 9223372036854775807 ∧ Hid (wr.heap[lo]? = some (.cells #[.string cur] 9 (0, 0))) ∧ Hid (wr.heap[lo + 1]? = some (.cells #[.string ⟨#[47]⟩] 9 (0, 0))) ∧ Hid (wr.heap[lo + 2]? = some (.cells #[.int .i64 0] 3 (0, 0))) ∧ Hid (pre.map bl ++ splitS (bl cur) = splitS (bl s)) ∧ J pre wr)
    (fun _ _ wr => lenAt lo wr)
  case atStart => exact ⟨[], s, hs, G0, G1, G2, rfl, HJ0.out⟩
  case round =>
    obtain ⟨pre, cur, hcs, k0, k1, k2, hsp, hj⟩ := hrel
    have d0 := cell_of_one k0.out; have d1 := cell_of_one k1.out; have d2 := cell_of_one k2.out
    have f0 := free_of_one k0.out
    have HJR := Lib.hid hj
    clear hj
    have hf86 : Fence.wide.fn 86 := trivial
    by_cases hi : Lib.indexByte cur.data.toList 47 = -1
    · have HI := Lib.hid hi
      have HE := Lib.hid (split_none hi)
      clear hi
      obtain ⟨fn, tmps, assign, body, hy, hR⟩ := HY.out pre cur wr HJR.out
      have HR := Lib.hid hR
      clear hR
      gi_wp2_with (gi_at_call 86; refine (callsIn_wide.2 (Tryd.strings_Index_one _ _ _)).mono ?_; rintro e w' ⟨rfl, rfl⟩; rw [HI.out])
      refine HR.out.mono ?_
      rintro e W3 (⟨rfl, hJ3, _⟩ | ⟨rfl, hJx3⟩)
      · gi_wp2
        go_end0
        exact ⟨⟨_, rfl⟩, .inl ⟨pre ++ [cur], by rw [List.map_append, ← hsp.out]; show _ = _ ++ splitS cur.data.toList; rw [HE.out]; rfl, hJ3⟩⟩
      · gi_wp2
        go_end0
        exact ⟨⟨_, rfl⟩, .inr ⟨pre ++ [cur], ⟨[], by rw [List.map_append, ← hsp.out, List.append_nil]; show _ = _ ++ splitS cur.data.toList; rw [HE.out]; rfl⟩, hJx3⟩⟩
    · obtain ⟨i, hi'⟩ : ∃ i : Nat, Lib.indexByte cur.data.toList 47 = i := ⟨(Lib.indexByte cur.data.toList 47).toNat, by have := Lib.indexByte_ge cur.data.toList 47; omega⟩
      have hil : i < cur.size := by
        rw [size_len]; exact (List.getElem?_eq_some_iff.1 (Lib.indexByte_some hi').1).1
      have HI := Lib.hid hi'
      have HE := Lib.hid (split_at hi')
      clear hi hi'
      obtain ⟨fn, tmps, assign, body, hy, hR⟩ := HY.out pre (cur.extract 0 i) wr HJR.out
      have HR := Lib.hid hR
      clear hR
      gi_wp2_with (gi_at_call 86; refine (callsIn_wide.2 (Tryd.strings_Index_one _ _ _)).mono ?_; rintro e w' ⟨rfl, rfl⟩; rw [HI.out])
      refine HR.out.mono ?_
      rintro e W3 (⟨rfl, hJ3, hK3⟩ | ⟨rfl, hJx3⟩)
      · have m0 := (hK3 lo (by omega) (by omega)).trans k0.out
        have m1 := (hK3 (lo + 1) (by omega) (by omega)).trans k1.out
        have m2 := (hK3 (lo + 2) (by omega) (by omega)).trans k2.out
        have e0 := cell_of_one m0; have e1 := cell_of_one m1; have q0 := free_of_one m0
        have M0 := Lib.hid m0; have M1 := Lib.hid m1; have M2 := Lib.hid m2
        have HJ3 := Lib.hid hJ3
        clear m0 m1 m2 hJ3 hK3 d0 d1 d2 f0
        gi_wp2
        go_roundw
        case rel =>
          refine ⟨pre ++ [cur.extract 0 i], cur.extract (i + 1) cur.size, by rw [ByteArray.size_extract]; omega, one_setCell M0.out, (Below.heap_setCell _ _ _ _ (by simp)).trans M1.out, (Below.heap_setCell _ _ _ _ (by simp)).trans M2.out, ?_, HJ.out _ _ _ HJ3.out ⟨_, rfl⟩⟩
          show _ = _
          rw [← hsp.out, List.map_append, List.append_assoc]
          show _ = _ ++ splitS cur.data.toList
          rw [HE.out]
          have e2 : bl (cur.extract (i + 1) cur.size) = cur.data.toList.drop (i + 1) := by
            unfold bl; rw [extract_list, List.take_of_length_le (by rw [List.length_drop, ← size_len]; omega)]
          rw [e2]
          simp [bl]
        case measure =>
          rw [lenAt_eq (one_setCell M0.out), lenAt_eq k0.out, ByteArray.size_extract]
          omega
      · gi_wp2
        refine bodyPost_ret (results_none rfl _ _ _) rfl ?_
        exact ⟨⟨_, rfl⟩, .inr ⟨pre ++ [cur.extract 0 i], ⟨splitS (cur.data.toList.drop (i + 1)), by
          rw [List.map_append, ← hsp.out, List.append_assoc]; show _ = _ ++ splitS cur.data.toList; rw [HE.out]; simp [bl]⟩, hJx3⟩⟩

set_option maxHeartbeats 400000 in
theorem splitSeq_any (s : ByteArray) (w : World) :
    Calls Tryd.prog 65 #[.string s, .string ⟨#[47]⟩] w fun e w' => e = .returned (.func (.func 84) #[] #[.pointer (some ⟨w.heap.size + 1, 0, none⟩), .pointer (some ⟨w.heap.size, 0, none⟩), .pointer (some ⟨w.heap.size + 2, 0, none⟩)]) ∧
      w' = ((w.alloc (.cells #[.string s] 9)).alloc (.cells #[.string ⟨#[47]⟩] 9)).alloc (.cells #[.int .i64 0] 3) := by
  go_enter Tryd.func65, Tryd.ntmps65
  go_wp2
  go_ret
  exact ⟨rfl, rfl⟩

/-- A box of one cell keeps what it holds while other blocks turn. -/
theorem one_grown {w w' : World} {b : Nat} {v : Value} {t : TypeId} {row : Option Nat} (h : w.heap[b]? = some (.cells #[v] t (0, 0))) (hg : w.grownBy w' row) (hr : some b ≠ row) : w'.heap[b]? = some (.cells #[v] t (0, 0)) :=
  (hg.block b (lt_of_block h) hr).trans h

theorem results37 {w : World} {a : Array Value} {r : Nat} {x : Bool} (ha : a[2]?.getD undef = .pointer (some ⟨r, 0, none⟩)) (h : w.heap[r]? = some (.cells #[.bool x] 4 (0, 0))) :
    (results Tryd.f37 a).run Tryd.prog w = .ok (.bool x) w := by
  have hc := cell_of_one h
  simp [results, Tryd.results37, ha, go_sem, hc]

set_option maxRecDepth 100000 in
set_option maxHeartbeats 1000000 in
theorem isName_any (s : ByteArray) (w : World) (hs : s.size ≤ maxLen) :
    Calls Tryd.prog 37 #[.string s] w fun e w' => e = .returned (.bool (nameB s)) ∧ Below w.heap.size w w' := by
  refine (callsIn_wide (n := 6)).1 ?_
  unfold maxLen at hs
  have hf65 : Fence.wide.fn 65 := trivial
  have hf66 : Fence.wide.fn 66 := trivial
  refine callsIn_of_wp_marks Tryd.func37 rfl trivial ?_ rfl
  simp only [Tryd.ntmps37, List.size_toArray, List.length_cons, List.length_nil, Nat.reduceAdd, Nat.reduceSub, Array.replicate_succ, Array.replicate_zero, List.push_toArray, List.append_toArray, List.nil_append, List.cons_append]
  by_cases c1 : 100 < (s.size : Int)
  · have hv := Lib.hid (name_long s c1)
    gi_wp2_with fail
    refine ⟨_, results37 rfl (World.alloc_heap_new w _), ?_⟩
    exact ⟨ret_bool hv.out.symm, (Below.refl _ _).alloc (Nat.le_refl _) _⟩
  have c1' : (s.size : Int) ≤ 100 := by omega
  have HN := Lib.hid (name_short s c1')
  gi_wp2_with (gi_at_call 65; refine (callsIn_wide.2 (splitSeq_any _ _)).mono ?_; rintro e w' ⟨rfl, rfl⟩)
  obtain ⟨W0, hW0⟩ : ∃ W0, (((w.alloc (.cells #[.bool false] 4)).alloc (.cells #[.string s] 9)).alloc (.cells #[.string ⟨#[47]⟩] 9)).alloc (.cells #[.int .i64 0] 3) = W0 := ⟨_, rfl⟩
  have hz : W0.heap.size = w.heap.size + 4 := by rw [← hW0]; simp
  have g0 : W0.heap[w.heap.size]? = some (.cells #[.bool false] 4 (0, 0)) := by
    rw [← hW0]
    exact (Below.heap_alloc _ _ _ (by simp; omega)).trans ((Below.heap_alloc _ _ _ (by simp; omega)).trans ((Below.heap_alloc _ _ _ (by simp)).trans (World.alloc_heap_new w _)))
  have g1 : W0.heap[w.heap.size + 1]? = some (.cells #[.string s] 9 (0, 0)) := by
    rw [← hW0]
    refine (Below.heap_alloc _ _ _ (by simp)).trans ((Below.heap_alloc _ _ _ (by simp)).trans ?_)
    have := World.alloc_heap_new (w.alloc (.cells #[.bool false] 4)) (.cells #[.string s] 9); rwa [World.size_alloc] at this
  have g2 : W0.heap[w.heap.size + 1 + 1]? = some (.cells #[.string ⟨#[47]⟩] 9 (0, 0)) := by
    rw [← hW0]
    refine (Below.heap_alloc _ _ _ (by simp)).trans ?_
    have := World.alloc_heap_new ((w.alloc (.cells #[.bool false] 4)).alloc (.cells #[.string s] 9)) (.cells #[.string ⟨#[47]⟩] 9); rwa [World.size_alloc, World.size_alloc] at this
  have g3 : W0.heap[w.heap.size + 1 + 2]? = some (.cells #[.int .i64 0] 3 (0, 0)) := by
    rw [← hW0]
    have := World.alloc_heap_new (((w.alloc (.cells #[.bool false] 4)).alloc (.cells #[.string s] 9)).alloc (.cells #[.string ⟨#[47]⟩] 9)) (.cells #[.int .i64 0] 3); rwa [World.size_alloc, World.size_alloc, World.size_alloc] at this
  have hb0 : Below w.heap.size w W0 := by
    rw [← hW0]
    exact ((((Below.refl _ w).alloc (Nat.le_refl _) _).alloc (by simp) _).alloc (by simp; omega) _).alloc (by simp; omega) _
  rw [hW0]
  have HG0 := Lib.hid g0
  have HB0 := Lib.hid hb0
  refine wpIn_rangeSt (F := Fence.wide) (n := 6) rfl (by omega) (gf := 84) (lb := #[.pointer (some ⟨w.heap.size + 1 + 1, 0, none⟩), .pointer (some ⟨w.heap.size + 1, 0, none⟩), .pointer (some ⟨w.heap.size + 1 + 2, 0, none⟩)]) rfl trivial (enters_of Tryd.func84 (by kernel_rfl) rfl)
    (split1_st 5 (w.heap.size + 1) (by omega) s W0 (by omega) (by omega) g1 g2 g3) keepR_t (fun W l o hl => keepR_put (m := w.heap.size + 4) (by omega) W l o (by omega)) (stS_others) (Below.refl _ _) (fun _ => rfl)
    (fun pre W => W.heap[w.heap.size]? = some (.cells #[.bool false] 4 (0, 0)) ∧ Hid (∀ x ∈ pre, validB x = true) ∧ Below w.heap.size w W)
    (fun c pre W => c = .ret ∧ W.heap[w.heap.size]? = some (.cells #[.bool false] 4 (0, 0)) ∧ Hid (∃ x ∈ pre, validB x = false) ∧ Below w.heap.size w W)
    ?hI ?hIx ?hIS ⟨g0, by simp [Hid], hb0⟩
    (fun x => { tmps := #[.string s, undef, .pointer (some ⟨w.heap.size, 0, none⟩), .string x, .string s, .int .i64 s.size, .bool false, .string s, .func (.func 84) #[] #[.pointer (some ⟨w.heap.size + 1 + 1, 0, none⟩), .pointer (some ⟨w.heap.size + 1, 0, none⟩), .pointer (some ⟨w.heap.size + 1 + 2, 0, none⟩)], .string x, undef, undef, undef], defers := [] }) ?assign ?body ?done ?stop
  case hI =>
    rintro pre A B row ⟨h1, h2, h3⟩ hg hr
    refine ⟨one_grown h1 hg (fun e => ?_), h2, h3.grown hg h3.size (fun k e => ?_)⟩
    · have := (hr _ e.symm).1; omega
    · have := (hr _ e).1; omega
  case hIx =>
    rintro c pre A B row ⟨h0, h1, h2, h3⟩ hg hr
    refine ⟨h0, one_grown h1 hg (fun e => ?_), h2, h3.grown hg h3.size (fun k e => ?_)⟩
    · have := (hr _ e.symm).1; omega
    · have := (hr _ e).1; omega
  case hIS =>
    rintro pre A B ⟨h1, h2, h3⟩ ⟨v, rfl⟩
    exact ⟨(Below.heap_setCell _ _ _ _ (by simp)).trans h1, h2, h3.setCell (p := ⟨w.heap.size + 1, 0, none⟩) (by simp) _⟩
  case assign =>
    intro l x W K hK
    gi_wp2
    exact hK
  case body =>
    rintro l pre x W ⟨h1, h2, h3⟩
    have c0 := cell_of_one h1
    have f0 := free_of_one h1
    have H1 := Lib.hid h1; have H3 := Lib.hid h3
    clear h1 h3 g0 g1 g2 g3 hb0 HG0 HB0 hW0 hz
    cases hv : validB x with
    | true =>
      have HV := Lib.hid hv
      clear hv
      gi_wp2_with (gi_at_call 66; refine (CallsIn.inRound l (callsIn_wide.2 (valid_any x _))).mono ?_; rintro e w' ⟨rfl, rfl⟩; rw [HV.out])
      refine ⟨KeepsOthers.refl _, fun _ _ _ => rfl, H1.out, ?_, H3.out⟩
      intro y hy
      rcases List.mem_append.1 hy with h | h
      · exact h2.out y h
      · simp at h; subst h; exact HV.out
    | false =>
      have HV := Lib.hid hv
      clear hv
      gi_wp2_with (gi_at_call 66; refine (CallsIn.inRound l (callsIn_wide.2 (valid_any x _))).mono ?_; rintro e w' ⟨rfl, rfl⟩; rw [HV.out])
      exact ⟨KeepsOthers.setCell _ _ _, rfl, one_setCell H1.out, ⟨x, by simp, HV.out⟩, H3.out.setCell (p := ⟨w.heap.size, 0, none⟩) (Nat.le_refl _) _⟩
  case done =>
    rintro D xs W hD hS ⟨h1, h2, h3⟩ hK
    have c0 := cell_of_one h1
    have f0 := free_of_one h1
    have H1 := Lib.hid h1; have H3 := Lib.hid h3; have HK := Lib.hid hK; have HS := Lib.hid hS
    clear h1 h3 hK hS
    gi_wp2
    have hK2 := (KeepsOthers.setCell W ⟨w.heap.size, 0, none⟩ (.bool true)).same D _ HK.out rfl
    refine ⟨by simp, .inl ⟨_, _, rfl, run_takeDeferred hK2, ?_⟩⟩
    refine ⟨_, results37 rfl ((World.putObj_heap_other (by omega)).trans (one_setCell H1.out)), ret_bool ?_, ?_⟩
    · rw [HN.out]
      symm
      rw [List.all_eq_true]
      intro y hy
      have hy' : y ∈ xs.map bl := by rw [HS.out]; exact hy
      obtain ⟨x, hx, rfl⟩ := List.mem_map.1 hy'
      exact h2.out x hx
    · exact (H3.out.setCell (p := ⟨w.heap.size, 0, none⟩) (Nat.le_refl _) _).grown (grownBy_putObj' _ _ _) ((H3.out.setCell (p := ⟨w.heap.size, 0, none⟩) (Nat.le_refl _) _).size) (fun k e => by cases e; omega)
  case stop =>
    rintro D c pre W hD hS ⟨rfl, h1, h2, h3⟩ hK
    have H1 := Lib.hid h1; have H3 := Lib.hid h3; have HK := Lib.hid hK; have HS := Lib.hid hS
    clear h1 h3 hK hS
    gi_wp2
    refine ⟨by simp, .inl ⟨_, _, rfl, run_takeDeferred HK.out, ?_⟩⟩
    refine ⟨_, results37 rfl ((World.putObj_heap_other (by omega)).trans H1.out), ret_bool ?_, ?_⟩
    · rw [HN.out]
      symm
      rw [List.all_eq_false]
      obtain ⟨x, hx, hxv⟩ := h2.out
      obtain ⟨r, hr⟩ := HS.out
      refine ⟨bl x, ?_, by simpa [validB, bl] using hxv⟩
      show bl x ∈ splitS (bl s)
      rw [← hr]
      exact List.mem_append.2 (.inl (List.mem_map.2 ⟨x, hx, rfl⟩))
    · exact H3.out.grown (grownBy_putObj' _ _ _) H3.out.size (fun k e => by cases e; omega)
end Go.Proofs.YtikmiabncbhioaaDoor
