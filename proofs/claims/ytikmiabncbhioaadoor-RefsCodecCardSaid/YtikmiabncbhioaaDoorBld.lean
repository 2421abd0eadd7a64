/-
  strings.Builder in a block of the call's own: what its writers do at this program (copyCheck 80, WriteByte 79, WriteString 71, String 70).
-/
import Derived.Test.YtikmiabncbhioaaDoorShelfB
import Derived.Test.YtikmiabncbhioaaDoorBlk
import Derived.Test.YtikmiabncbhioaaDoorRange
import Derived.Lib.Builder
import Derived.Lib.AppendStr
import Derived.Lib.UnsafeStr
import Derived.Laws.Externs
namespace Go.Proofs.YtikmiabncbhioaaDoor
open Go.RowKit

/-- Of all that is no builder and no row of bytes, nothing turns. -/
structure Kt (w w' : World) : Prop where
  others : KeepsOthers w w'
  same : ∀ (k : Nat) (cs : Array Value) (t : TypeId) (fr : Nat × Nat), t ≠ 5 → t ≠ 99 → w.heap[k]? = some (.cells cs t fr) → w'.heap[k]? = some (.cells cs t fr)
theorem Kt.refl (w : World) : Kt w w := ⟨KeepsOthers.refl w, fun _ _ _ _ _ _ h => h⟩
theorem Kt.trans {a b c : World} (h : Kt a b) (k : Kt b c) : Kt a c := ⟨h.others.trans k.others, fun i cs t fr h5 h9 hi => k.same i cs t fr h5 h9 (h.same i cs t fr h5 h9 hi)⟩
theorem Kt.alloc (w : World) (o : Obj) : Kt w (w.alloc o) := ⟨KeepsOthers.alloc w o, fun k _ _ _ _ _ h => (Below.heap_alloc w o k (Array.getElem?_eq_some_iff.1 h).1).trans h⟩
theorem Kt.setCell {w : World} {b i : Nat} {cs : Array Value} {fr : Nat × Nat} (hb : w.heap[b]? = some (.cells cs 99 fr)) (v : Value) : Kt w (w.setCell ⟨b, i, none⟩ v) :=
  ⟨KeepsOthers.setCell _ _ _, fun k cs' t fr' _ h9 h => (Below.heap_setCell w ⟨b, i, none⟩ v k (fun e => by
    have e' : k = b := e
    rw [e', hb] at h
    simp only [Option.some.injEq, Obj.cells.injEq] at h
    exact h9 h.2.1.symm)).trans h⟩
theorem Kt.grown {w w' : World} {base size n : Nat} {v : Value} {xs : List Value} (hown : w.ownsRow base 5 size v n xs) (hg : w.grownBy w' v.ownBlock) : Kt w w' := by
  have key : ∀ j, v.ownBlock = some j → ∃ cur, w.heap[j]? = some (.cells cur 5 (0, 0)) := by
    intro j hj
    rcases hown.2 with ⟨hv, _⟩ | ⟨g, cap, cur, hv, _, hh, _⟩
    · rw [hv] at hj; cases hj
    · rw [hv] at hj; cases hj; exact ⟨cur, hh⟩
  refine ⟨KeepsOthers.of_grownBy hg fun j o hj ho => ?_, fun k cs t fr h5 _ h => ?_⟩
  · obtain ⟨cur, hc⟩ := key j hj
    rw [hc] at ho; cases ho; rfl
  · refine (hg.block k (Array.getElem?_eq_some_iff.1 h).1 (fun e => ?_)).trans h
    obtain ⟨cur, hc⟩ := key k e.symm
    rw [hc] at h
    simp only [Option.some.injEq, Obj.cells.injEq] at h
    exact h5 h.2.1.symm
theorem infoByte : (Tryd.prog.info? 5).map (fun i => (i.zero, i.size, i.bytes)) = some (some (.int .u8 0), 1, 1) := by kernel_rfl

set_option maxHeartbeats 1000000 in
set_option maxRecDepth 100000 in
theorem copy_used (b : Nat) (w : World) (h0 : w.cell? ⟨b, 0, none⟩ = some (.pointer (some ⟨b, 0, none⟩))) :
    Calls Tryd.prog 80 #[.pointer (some ⟨b, 0, none⟩)] w fun e w' => e = .returned (.tuple #[]) ∧ w' = w := by
  obtain ⟨j, hj, _⟩ := Option.map_eq_some_iff.1 Tryd.Builder_Extra_169.sizeBuilder
  go_enter Tryd.func80, Tryd.ntmps80
  go_wp2
  rw [Lib.run_neq_ptr_same w _ Tryd.underlying97 hj]
  go_wp2
  go_end0
  exact ⟨rfl, rfl⟩

set_option maxHeartbeats 1000000 in
set_option maxRecDepth 100000 in
theorem copy_fresh (b : Nat) (w : World) (h0 : w.cell? ⟨b, 0, none⟩ = some (.pointer none)) (hsh : w.shape? b = some (99, 2)) (hfz : w.frozen? ⟨b, 0, none⟩ = false) :
    Calls Tryd.prog 80 #[.pointer (some ⟨b, 0, none⟩)] w fun e w' => e = .returned (.tuple #[]) ∧ w' = w.setCell ⟨b, 0, none⟩ (.pointer (some ⟨b, 0, none⟩)) := by
  obtain ⟨j, hj, hjs⟩ := Option.map_eq_some_iff.1 Tryd.Builder_Extra_169.sizeBuilder
  go_enter Tryd.func80, Tryd.ntmps80
  go_wp2
  rw [Lib.run_to_unsafe w ⟨b, 0, none⟩ Tryd.underlying97 Tryd.underlying123 hj (by rw [hjs]; decide) hsh (Nat.zero_lt_succ 1)]
  simp only [Result.andThen]
  rw [Oper.upon_value]
  go_wp2
  rw [run_callFunc_extern Tryd.func88 (by kernel_rfl) (by kernel_rfl) (by kernel_rfl) (e := Extern.AbiNoEscape.same) (by kernel_rfl)]
  rw [Lib.run_noEscape]
  simp only [Result.andThen]
  rw [Oper.upon_value]
  go_wp2
  rw [Lib.run_from_unsafe w ⟨b, 0, none⟩ Tryd.underlying123 Tryd.underlying97 hj hsh Tryd.Builder_Extra_169.liesBuilder]
  simp only [Result.andThen]
  rw [Oper.upon_value]
  go_wp2
  go_end0
  exact ⟨rfl, rfl⟩

theorem copy_any (B b : Nat) (bs : List Value) (w : World) (h : Lib.IsBuilder 99 5 B b bs w) :
    Calls Tryd.prog 80 #[.pointer (some ⟨b, 0, none⟩)] w fun e w' => e = .returned (.tuple #[]) ∧ (Lib.BuilderAt 99 5 B b (.pointer (some ⟨b, 0, none⟩)) bs w' ∧ Below B w w' ∧ Kt w w') := by
  rcases h with h | h
  · refine (copy_fresh b w h.cell0 h.shape h.frozen0).mono ?_
    rintro e w' ⟨rfl, rfl⟩
    obtain ⟨_, v, hb, _⟩ := id h
    exact ⟨rfl, h.used _, (Below.refl B w).setCell (p := ⟨b, 0, none⟩) h.1 _, Kt.setCell hb _⟩
  · refine (copy_used b w h.cell0).mono ?_
    rintro e w' ⟨rfl, rfl⟩
    exact ⟨rfl, h, Below.refl B _, Kt.refl _⟩

set_option maxHeartbeats 2000000 in
set_option maxRecDepth 100000 in
theorem writeByte_any (B b : Nat) (bs : List Value) (c : Int) (w : World) (h : Lib.IsBuilder 99 5 B b bs w) (hlen : bs.length + 1 ≤ 140737488355328) (hBw : B ≤ w.heap.size) :
    Calls Tryd.prog 79 #[.pointer (some ⟨b, 0, none⟩), .int .u8 c] w fun e w' => e = .returned .nilIface ∧ (Lib.BuilderAt 99 5 B b (.pointer (some ⟨b, 0, none⟩)) (bs ++ [.int .u8 c]) w' ∧ Below B w w' ∧ Kt w w') := by
  obtain ⟨i0, hi, hz0, hz1, hz2⟩ := info_parts infoByte
  go_enter Tryd.func79, Tryd.ntmps79
  go_wp2_with fail
  refine (copy_any B b bs _ h).mono ?_
  rintro e w1 ⟨rfl, h1, hb1, hk1⟩
  have HK1 := Lib.hid hk1; clear hk1
  obtain ⟨hB, v, hbk, hown, hne⟩ := h1
  have c0 : w1.cell? ⟨b, 0, none⟩ = some (.pointer (some ⟨b, 0, none⟩)) := by rw [Lib.cell_of_heap hbk]; rfl
  have c1 : w1.cell? ⟨b, 1, none⟩ = some v := by rw [Lib.cell_of_heap hbk]; rfl
  go_wp2_with (at_builtin; refine wpList_append_own _ rfl _ _ 70 rfl B 5 i0 (.int .u8 0) 1 1 Tryd.underlying70 hi hz0 hz1 hz2 rfl (by decide) _ _ _ rfl (hown.alloc _) ⟨w1.heap.size, 0, none⟩ 1 1 [.int .u8 c] rfl rfl ?c1 ?c2 ?c3 ?c4 ?c5 ?_)
  case c1 =>
    intro j u hj
    match j, hj with
    | 0, hj => simp at hj; subst hj; simp [Addr.add]
  case c2 => intro u hu; simp at hu; subst hu; rfl
  case c3 => unfold maxLen; omega
  case c4 => omega
  case c5 => have := hb1.size; simp; omega
  intro v' w2 hown' hgrow _
  have HK2 : Hid (Kt w w2) := (HK1.out.trans (Kt.alloc _ _)).trans (Kt.grown (hown.alloc _) hgrow)
  have hlt : b < w1.heap.size := (Array.getElem?_eq_some_iff.1 hbk).1
  have hb2 : w2.heap[b]? = some (.cells #[.pointer (some ⟨b, 0, none⟩), v] 99 (0, 0)) := by
    rw [hgrow.block b (by simp; omega) (fun e => hne e.symm), Lib.alloc_old w1 _ b hlt]
    exact hbk
  have d0 : w2.cell? ⟨b, 0, none⟩ = some (.pointer (some ⟨b, 0, none⟩)) := by rw [Lib.cell_of_heap hb2]; rfl
  have d1 : w2.cell? ⟨b, 1, none⟩ = some v := by rw [Lib.cell_of_heap hb2]; rfl
  have f1 : w2.frozen? ⟨b, 1, none⟩ = false := Lib.frozen_of_heap hb2 1
  obtain ⟨g, cap, rfl⟩ : ∃ g cap, v' = .slice (some ⟨g, 0, none⟩) (bs.length + 1) cap := by
    rcases hown'.2 with ⟨_, h0⟩ | ⟨g, cap, cur, hv, _⟩
    · omega
    · exact ⟨g, cap, hv⟩
  go_wp2
  go_ret
  refine ⟨rfl, ?_, ?_, HK2.out.trans (Kt.setCell hb2 _)⟩
  · exact Lib.BuilderAt.put (T := 99) (e := 5) hB hb2 (bs' := bs ++ [.int .u8 c]) (by simpa using hown') (by decide)
  · exact ((hb1.alloc (by have := hb1.size; omega) _).grown hgrow (by have := hb1.size; simp; omega) (fun k hk => (hown.lt k hk).1)).setCell (p := ⟨b, 1, none⟩) hB _

set_option maxHeartbeats 2000000 in
set_option maxRecDepth 100000 in
theorem writeString_any (B b : Nat) (bs : List Value) (s : ByteArray) (w : World) (h : Lib.IsBuilder 99 5 B b bs w) (hlen : bs.length + s.size ≤ 140737488355328) (hBw : B ≤ w.heap.size) :
    Calls Tryd.prog 71 #[.pointer (some ⟨b, 0, none⟩), .string s] w fun e w' => e = .returned (.tuple #[.int .i64 s.size, .nilIface]) ∧ (Lib.BuilderAt 99 5 B b (.pointer (some ⟨b, 0, none⟩)) (bs ++ Lib.strCells s) w' ∧ Below B w w' ∧ Kt w w') := by
  obtain ⟨i0, hi, hz0, hz1, hz2⟩ := info_parts infoByte
  go_enter Tryd.func71, Tryd.ntmps71
  go_wp2_with fail
  refine (copy_any B b bs _ h).mono ?_
  rintro e w1 ⟨rfl, h1, hb1, hk1⟩
  have HK1 := Lib.hid hk1; clear hk1
  obtain ⟨hB, v, hbk, hown, hne⟩ := h1
  have c0 : w1.cell? ⟨b, 0, none⟩ = some (.pointer (some ⟨b, 0, none⟩)) := by rw [Lib.cell_of_heap hbk]; rfl
  have c1 : w1.cell? ⟨b, 1, none⟩ = some v := by rw [Lib.cell_of_heap hbk]; rfl
  go_wp2_with (at_builtin; refine Lib.wpList_append_own_string _ rfl _ _ 70 9 rfl B 5 i0 Tryd.underlying70 Tryd.underlying9 hi hz0 hz1 hz2 _ _ _ rfl hown s rfl ?c3 ?c4 ?c5 ?_)
  case c3 => unfold maxLen; omega
  case c4 => omega
  case c5 => have := hb1.size; omega
  intro v' w2 hown' hgrow _
  have HK2 : Hid (Kt w w2) := HK1.out.trans (Kt.grown hown hgrow)
  have hlt : b < w1.heap.size := (Array.getElem?_eq_some_iff.1 hbk).1
  have hb2 : w2.heap[b]? = some (.cells #[.pointer (some ⟨b, 0, none⟩), v] 99 (0, 0)) := by
    rw [hgrow.block b hlt (fun e => hne e.symm)]
    exact hbk
  have d0 : w2.cell? ⟨b, 0, none⟩ = some (.pointer (some ⟨b, 0, none⟩)) := by rw [Lib.cell_of_heap hb2]; rfl
  have d1 : w2.cell? ⟨b, 1, none⟩ = some v := by rw [Lib.cell_of_heap hb2]; rfl
  have f1 : w2.frozen? ⟨b, 1, none⟩ = false := Lib.frozen_of_heap hb2 1
  obtain ⟨ao, n', cap, rfl⟩ : ∃ ao n' cap, v' = .slice ao n' cap := by
    rcases hown'.2 with ⟨hv, _⟩ | ⟨g, cap, cur, hv, _⟩
    · exact ⟨_, _, _, hv⟩
    · exact ⟨_, _, _, hv⟩
  go_wp2
  go_ret2
  refine ⟨rfl, ?_, ?_, HK2.out.trans (Kt.setCell hb2 _)⟩
  · exact Lib.BuilderAt.put (T := 99) (e := 5) hB hb2 (bs' := bs ++ Lib.strCells s) (by simpa [Lib.strCells_length] using hown') (by decide)
  · exact (hb1.grown hgrow (by have := hb1.size; omega) (fun k hk => (hown.lt k hk).1)).setCell (p := ⟨b, 1, none⟩) hB _
end Go.Proofs.YtikmiabncbhioaaDoor
