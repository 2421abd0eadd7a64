/-
  refs.state.list: the map's refs, in ascending order.
-/
import Derived.Test.YtikmiabncbhioaaDoorGRep
import Derived.Test.YtikmiabncbhioaaDoorIter
import Derived.Sort.Walk0
namespace Go.Proofs.YtikmiabncbhioaaDoor
open Go.RowKit Go.Maps

def strC (r : Rf) : List Value := [.string r.1]
theorem strC_len (r : Rf) : (strC r).length = 1 := rfl
theorem keys_mapD (l : List Rf) : strKeys (mapD l) = l.map (fun r => r.1.data.toList) := by
  show List.map (fun p => strOf p.1) (List.map ent l) = _
  rw [List.map_map]
  rfl
theorem size_mapD (l : List Rf) : Maps.size (mapD l) = l.length := by
  simp [Maps.size, mapD]
theorem strs_flat : ∀ l : List Rf, l.map (encStr ∘ fun r => r.1.data.toList) = flat strC l
  | [] => rfl
  | r :: l => by
    have := strs_flat l
    unfold flat at this ⊢
    rw [List.map_cons, this]
    simp [strC, encStr]
theorem keys_sorted {l : List Rf} (h : Srt l) {ss : List (List UInt8)} (hp : ss.Perm (strKeys (mapD l))) : (ss.mergeSort (fun x y => decide (x ≤ y))).map encStr = flat strC l := by
  have e1 : ss.mergeSort leB = (strKeys (mapD l)).mergeSort leB := mergeSort_of_perm hp
  have e2 : (strKeys (mapD l)).mergeSort leB = strKeys (mapD l) := by
    refine List.mergeSort_of_pairwise ?_
    rw [keys_mapD]
    refine List.pairwise_map.2 (h.imp fun {a b} hab => ?_)
    have : a.1.data.toList < b.1.data.toList := by
      have := hab
      unfold less at this
      rw [bytesLess_eq] at this
      simpa using this
    simp only [leB, decide_eq_true_eq]
    exact List.le_of_lt this
  show (ss.mergeSort leB).map encStr = _
  rw [e1, e2, keys_mapD, List.map_map]
  exact strs_flat l

set_option maxHeartbeats 2000000 in
theorem list_any (b n : Nat) (l : List Rf) (w : World) (hown : w.ownsMap Tryd.prog 9 digR b n (mapD l)) (hl : Srt l) (hn : n ≤ 100000) :
    Calls Tryd.prog 35 #[.map (some b)] w (RetRefs l w) := by
  have hlen : l.length ≤ n := by rw [← size_mapD]; exact hown.size_le
  have HS : Hid (∀ r ∈ l, r.1.size ≤ maxLen) := by
    intro r hr
    have := strKeys_le hown Tryd.underlying9 r.1.data.toList (by rw [keys_mapD]; exact List.mem_map.2 ⟨r, hr, rfl⟩)
    rwa [Array.length_toList] at this
  have HL := Lib.hid hl; have HO := Lib.hid hown; have hblt := hown.lt; clear hl hown
  obtain ⟨i0, hi, hz0, hz1, hz2⟩ := info_parts info56
  have Hi := Lib.hid hi; have Hz0 := Lib.hid hz0; have Hz1 := Lib.hid hz1; have Hz2 := Lib.hid hz2
  clear hi hz0 hz1 hz2
  generalize hRR : RetRefs l w = RR at *
  have HRR := Lib.hid hRR; clear hRR
  go_enter Tryd.func35, Tryd.ntmps35
  go_wp2_with fail
  refine (callsIn_wide.1 (Tryd.maps_Keys_64 (some b) _)).mono ?_
  rintro e w0 ⟨rfl, rfl⟩
  go_wp2_with fail
  refine (callsIn_wide.1 (Tryd.slices_Sorted_keys_63_64 b n (mapD l) digR w HO.out (by rw [size_mapD]; unfold maxLen; omega) (by rw [size_mapD]; omega))).mono ?_
  rintro e w1 ⟨v, ss, rfl, hperm, hrow, _, hb1⟩
  have hss : ss.length = l.length := by rw [hperm.length_eq, keys_mapD, List.length_map]
  rw [keys_sorted HL.out hperm, hss] at hrow
  obtain ⟨A1, c1, rfl, hc1, hm1⟩ := ownsRow_form hrow
  have HK := Lib.hid (Sl.of_own hrow)
  have HB1 : Hid (Below w.heap.size w w1) := ((Below.refl _ w).alloc (Nat.le_refl _) _).trans (hb1.mono (by simp))
  have hz1 : w.heap.size + 1 ≤ w1.heap.size := by have := hb1.size; simp at this; omega
  have HO1 := Lib.hid (HO.out.kept (below_grown HB1.out none) (by simp))
  clear hperm hrow hb1 hss hm1
  go_wp2
  go_loopw [3, 10] (fun v i wr => ∃ (k : Nat) (A : Option Addr) (c : Nat), k ≤ l.length ∧ i = .int .i64 k ∧ v = .slice A k c ∧ Hid (wr.ownsRow w1.heap.size 56 3 (.slice A k c) k (flat rfC (l.take k))) ∧ Hid (Below w1.heap.size w1 wr) ∧ w1.heap.size ≤ wr.heap.size) (fun _ i _ => l.length - (intOf i).toNat)
  case atStart => exact ⟨0, none, 0, Nat.zero_le _, rfl, rfl, World.ownsRow_nil _ _ _ _, Below.refl _ _, Nat.le_refl _⟩
  case round =>
    obtain ⟨k, A, c, hk, rfl, rfl, O, hBel, hwz⟩ := hrel
    by_cases hlt : k < l.length
    · obtain ⟨b1, off, r, rfl, hbB, hr, hc⟩ := (HK.out.below hBel.out (Nat.le_refl _)).at_ strC_len (by omega) hlt
      have y0 := hc 0 _ rfl
      simp at y0
      have HRk := Lib.hid hr
      have HRS := Lib.hid (HS.out r (List.mem_of_getElem? hr))
      clear hr hc
      have hlk := own_look (HO1.out.kept (below_grown hBel.out none) (by simp)) HRS.out
      rw [getL_mem HL.out (List.mem_of_getElem? HRk.out)] at hlk
      obtain ⟨s, ⟨d0, d1⟩⟩ := r
      simp only [digV] at hlk y0
      have hlz : (k : Int) < (l.length : Int) := by omega
      go_wp2_with (at_builtin; refine halt_ ?_)
      refine unhalt ?_
      refine wpList_append_sl (base := w1.heap.size) _ rfl (.tmp 14) (.tmp 20) 22 rfl 56 i0 _ 32 Tryd.underlying22 Hi.out Hz0.out Hz1.out Hz2.out rfl (by decide) _ k (flat rfC (l.take k)) rfl (O.out.alloc _) (wr.heap.size + 1) _ 1 _ (flat rfC [(s, (d0, d1))]) rfl ?hs2 (oneCells_rf _) ?b4 ?b5 ?b6 ?_
      case hs2 => exact Sl.new wr 56 (flat rfC [(s, (d0, d1))]) 1 rfl
      case b4 => simp [maxLen]; omega
      case b5 => omega
      case b6 => simp; omega
      intro A2 c2 w2 hown2 hg2 hc2 hm2
      have hb2 : Below w1.heap.size w1 w2 := (hBel.out.alloc hwz _).grown hg2 (by simp; omega) (fun g hg => ownBlock_ge O.out g hg)
      rw [← flat_append, ← take_snoc HRk.out] at hown2
      have HO2 := Lib.hid hown2; have HB2 := Lib.hid hb2
      clear hown2 hg2 hb2 hc2 hm2 y0 hlk
      go_wp2
      go_roundw
      case rel => exact ⟨k + 1, A2, c2, by omega, by go_num, rfl, HO2.out, HB2.out, HB2.out.size⟩
      case measure => simp [intOf]; omega
    · have hke : k = l.length := by omega
      have O2 := O.out
      rw [hke, List.take_length] at O2
      have O3 := Lib.hid O2; clear O2
      subst hke
      go_wp2
      rw [← HRR.out]
      obtain ⟨_, _, e6, hm6, hc6⟩ := ownsRow_form O3.out
      cases e6
      exact ⟨A, _, c, rfl, Sl.of_own O3.out, hm6, hc6, HB1.out.trans (hBel.out.mono (by omega)), ownsRow_lower O3.out (by omega)⟩
end Go.Proofs.YtikmiabncbhioaaDoor
