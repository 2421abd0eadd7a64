/-
  cordwoodref11.set: the refs in which a name has a digest.
-/
import Derived.Test.YtikmiabncbhioaaDoorSmall2
import Derived.Test.YtikmiabncbhioaaDoorApp
import Derived.Test.YtikmiabncbhioaaDoorBlk
namespace Go.Proofs.YtikmiabncbhioaaDoor
open Go.RowKit

theorem info56 : (Tryd.prog.info? 56).map (fun i => (i.zero, i.size, i.bytes)) = some (some (.agg #[.string ⟨#[]⟩, .int .u64 0, .int .u64 0]), 3, 32) := by kernel_rfl
theorem info30 : (Tryd.prog.info? 30).map (fun i => (i.zero, i.size, i.bytes)) = some (some (.agg #[.string ⟨#[]⟩, .int .u64 0, .int .u64 0, .int .u64 0, .int .u64 0]), 5, 48) := by kernel_rfl

/-- A slice of refs is handed back, in memory that lies whole in the new world; nothing that was there has changed. -/
def RetRefs (l : List Rf) (w : World) (e : Ending) (w' : World) : Prop :=
  ∃ A m c, e = .returned (.slice A m c) ∧ Sl w' w'.heap.size 3 A m (flat rfC l) ∧ m ≤ c ∧ c ≤ maxLen ∧ Below w.heap.size w w' ∧ w'.ownsRow w.heap.size 56 3 (.slice A m c) m (flat rfC l)

theorem oneCells_rf (l : List Rf) : ∀ u ∈ flat rfC l, u.oneCell' = true := by
  intro u hu
  obtain ⟨r, _, hr⟩ := List.mem_flatMap.1 hu
  simp only [rfC, List.mem_cons, List.not_mem_nil, or_false] at hr
  rcases hr with rfl | rfl | rfl <;> rfl
theorem oneCells_up (l : List Upd) : ∀ u ∈ flat upC l, u.oneCell' = true := by
  intro u hu
  obtain ⟨r, _, hr⟩ := List.mem_flatMap.1 hu
  simp only [upC, List.mem_cons, List.not_mem_nil, or_false] at hr
  rcases hr with rfl | rfl | rfl | rfl | rfl <;> rfl

theorem notSlice_rf (l : List Rf) : ∀ u ∈ flat rfC l, notSlice u = true := by
  intro u hu
  obtain ⟨r, _, hr⟩ := List.mem_flatMap.1 hu
  simp only [rfC, List.mem_cons, List.not_mem_nil, or_false] at hr
  rcases hr with rfl | rfl | rfl <;> rfl
theorem notSlice_up (l : List Upd) : ∀ u ∈ flat upC l, notSlice u = true := by
  intro u hu
  obtain ⟨r, _, hr⟩ := List.mem_flatMap.1 hu
  simp only [upC, List.mem_cons, List.not_mem_nil, or_false] at hr
  rcases hr with rfl | rfl | rfl | rfl | rfl <;> rfl

theorem setL_pre (s : ByteArray) (d : Dig) : ∀ (pre l : List Rf), (∀ r ∈ pre, less r.1 s = true) → setL (pre ++ l) s d = pre ++ setL l s d
  | [], _, _ => rfl
  | r :: pre, l, h => by
    rw [List.cons_append, setL, if_pos (h r (by simp)), setL_pre s d pre l (fun q hq => h q (by simp [hq]))]; rfl
def midL (s : ByteArray) (d : Dig) : List Rf := if d = (0, 0) then [] else [(s, d)]
/-- where the loop has come to an end -/
theorem setL_end {rs : List Rf} {s : ByteArray} (d : Dig) (k : Nat) (h : ∀ r ∈ rs.take k, less r.1 s = true) (hk : rs.length ≤ k) : setL rs s d = rs.take k ++ midL s d ++ rs.drop k := by
  have e : rs.take k = rs := List.take_of_length_le hk
  rw [e] at h ⊢
  have := setL_pre s d rs [] h
  rw [List.append_nil] at this
  rw [this, List.drop_of_length_le hk, List.append_nil]; rfl
theorem setL_hit {rs : List Rf} {s : ByteArray} (d : Dig) (k : Nat) (h : ∀ r ∈ rs.take k, less r.1 s = true) {r : Rf} (hr : rs[k]? = some r) (hl : less r.1 s = false) (he : r.1 = s) : setL rs s d = rs.take k ++ midL s d ++ rs.drop (k + 1) := by
  have hk := List.getElem?_eq_some_iff.1 hr
  have := setL_pre s d (rs.take k) (rs.drop k) h
  rw [List.take_append_drop] at this
  rw [this, List.append_assoc, List.drop_eq_getElem_cons hk.1, hk.2, setL, hl, if_neg (by simp), if_pos he]; rfl
theorem setL_miss {rs : List Rf} {s : ByteArray} (d : Dig) (k : Nat) (h : ∀ r ∈ rs.take k, less r.1 s = true) {r : Rf} (hr : rs[k]? = some r) (hl : less r.1 s = false) (he : r.1 ≠ s) : setL rs s d = rs.take k ++ midL s d ++ rs.drop k := by
  have hk := List.getElem?_eq_some_iff.1 hr
  have := setL_pre s d (rs.take k) (rs.drop k) h
  rw [List.take_append_drop] at this
  rw [this, List.append_assoc, List.drop_eq_getElem_cons hk.1, hk.2, setL, hl, if_neg (by simp), if_neg he]; rfl

theorem less_toList (s t : ByteArray) : Op.bytesLess s.toList t.toList = less s t := by rw [ByteArray.toList_eq, ByteArray.toList_eq]; rfl

theorem own_empty1 (w : World) (o : Obj) {base size : Nat} {e : TypeId} (h : base ≤ w.heap.size + 1) : ((w.alloc o).alloc (.cells #[] e)).ownsRow base e size (.slice (some ⟨w.heap.size + 1, 0, none⟩) 0 0) 0 [] := by
  have := World.ownsRow_lit (base := base) (e := e) (size := size) (w.alloc o) #[] 0 (by rw [World.size_alloc]; exact h) (by simp [maxLen]) (by simp)
  rw [World.size_alloc] at this
  exact this
theorem Sl.new (w : World) (t : TypeId) (xs : List Value) (n : Nat) {size : Nat} (h : xs.length = n * size) : Sl (w.alloc (.cells xs.toArray t)) (w.heap.size + 1) size (some ⟨w.heap.size, 0, none⟩) n xs :=
  ⟨h, fun _ => ⟨w.heap.size, 0, rfl, by omega, fun j u hu => by
    rw [Nat.zero_add, cell_of_row _ w.heap.size j xs.toArray t (0, 0) (World.alloc_heap_new w _)]
    simpa using hu⟩⟩

set_option maxRecDepth 100000 in
set_option maxHeartbeats 4000000 in
theorem set_any (A0 : Option Addr) (n0 c0 B : Nat) (rs : List Rf) (s : ByteArray) (d : Dig) (w : World) (h0 : Sl w B 3 A0 n0 (flat rfC rs)) (hB : B ≤ w.heap.size) (hnc : n0 ≤ c0) (hm : c0 ≤ maxLen) (hn : n0 ≤ 1000000) :
    Calls Tryd.prog 61 #[.slice A0 n0 c0, .string s, digV d] w (RetRefs (setL rs s d) w) := by
  obtain ⟨d0, d1⟩ := d
  have HR : Hid (∀ l, setL rs s (d0, d1) = l → RetRefs (setL rs s (d0, d1)) w = RetRefs l w) := fun l h => by rw [h]
  generalize hRR : RetRefs (setL rs s (d0, d1)) w = RR at *
  clear hRR
  have HL0 := Lib.hid (h0.len rfC_len (by omega))
  have HM := Lib.hid hm; clear hm
  obtain ⟨i0, hi, hz0, hz1, hz2⟩ := info_parts info56
  have Hi := Lib.hid hi; have Hz0 := Lib.hid hz0; have Hz1 := Lib.hid hz1; have Hz2 := Lib.hid hz2
  clear hi hz0 hz1 hz2
  show Calls Tryd.prog 61 #[.slice A0 n0 c0, .string s, .agg #[.int .u64 d0, .int .u64 d1]] w _
  have H0 := Lib.hid (h0.alloc hB (.cells #[.int .u64 d0, .int .u64 d1] 28)); clear h0
  go_enter Tryd.func61, Tryd.ntmps61
  go_wp2
  go_loop [7] (fun i => ∃ k : Nat, k ≤ n0 ∧ i = .int .i64 k ∧ Hid (∀ r ∈ rs.take k, less r.1 s = true)) (fun i => n0 - (intOf i).toNat)
  case atStart => exact ⟨0, Nat.zero_le _, rfl, by simp [Hid]⟩
  case round =>
    obtain ⟨k, hk, rfl, hall⟩ := hrel
    have tk := run_slice_to (P := Tryd.prog) 22 i0 Tryd.underlying22 Hi.out A0 n0 c0 k (by omega)
    by_cases hlt : k < n0
    · obtain ⟨b, off, r, rfl, hbB, hr, x0, _, _⟩ := H0.out.ref hlt
      have HRK := Lib.hid hr; clear hr
      cases hl : less r.1 s with
      | true =>
        have t1 : Op.bytesLess r.1.toList s.toList = true := by rw [less_toList]; exact hl
        have hnx : Hid (∀ q ∈ rs.take (k + 1), less q.1 s = true) := by
          intro q hq
          rw [take_snoc HRK.out] at hq
          rcases List.mem_append.1 hq with h | h
          · exact hall.out q h
          · simp at h; subst h; exact hl
        clear hl
        go_wp2
        go_round
        case rel => exact ⟨k + 1, by omega, by go_num, hnx⟩
        case measure => simp [intOf]; omega
      | false =>
        have t1 : Op.bytesLess r.1.toList s.toList = false := by rw [less_toList]; exact hl
        by_cases he : r.1 = s
        · have t2 : (r.1.toList == s.toList) = true := by rw [he]; simp
          obtain ⟨Ak, hAr, hAk⟩ := run_slice_from (P := Tryd.prog) 22 i0 Tryd.underlying22 Hi.out Hz1.out (some ⟨b, off, none⟩) n0 c0 (k + 1) (by omega) hnc
          have hAr' : ∀ w : World, (Instr.sliceAt 22 (.slice (some ⟨b, off, none⟩) n0 c0) (some (.int .i64 ((k : Int) + 1))) none none).run Tryd.prog w = .ok (.slice Ak (n0 - (k + 1)) (c0 - (k + 1))) w := hAr
          have HAk := Lib.hid hAk
          have HE := Lib.hid he; have HLL := Lib.hid hl
          clear he hl hAr hAk
          by_cases hz : ((d0, d1) : Dig) = (0, 0)
          · have t3 := dig_eq_true hz
            simp only at t3
            have HZ := Lib.hid hz
            clear hz
            go_wp2_with (at_builtin; refine halt_ ?_)
            refine unhalt ?_
            refine wpList_append_sl (base := w.heap.size + 1) _ rfl (.tmp 24) (.tmp 27) 22 rfl 56 i0 _ 32 Tryd.underlying22 Hi.out Hz0.out Hz1.out Hz2.out rfl (by decide) _ 0 [] rfl ?ow B _ k _ (flat rfC (rs.take k)) rfl ?hs1 (oneCells_rf _) ?b1 ?b2 ?b3 ?_
            case ow => exact own_empty1 w _ (Nat.le_refl _)
            case hs1 => exact (H0.out.take_ rfC_len (by omega) hk).alloc (by simp; omega) _
            case b1 => simp [maxLen]; omega
            case b2 => omega
            case b3 => simp
            intro A1 c1 w1 hown1 hg1 hc1 hm1
            have hb1 : Below (w.heap.size + 1) (w.alloc (.cells #[.int .u64 d0, .int .u64 d1] 28)) w1 := ((Below.refl _ _).alloc (by simp) _).grown hg1 (by simp) (fun g hg => by cases hg; simp)
            have y0 : w1.cell? ⟨w.heap.size, 0, none⟩ = some (.int .u64 d0) := (hb1.cell (p := ⟨w.heap.size, 0, none⟩) (by simp)).trans (by simp)
            have y1 : w1.cell? ⟨w.heap.size, 1, none⟩ = some (.int .u64 d1) := (hb1.cell (p := ⟨w.heap.size, 1, none⟩) (by simp)).trans (by simp)
            have x1 : w1.cell? ⟨b, off + k * 3, none⟩ = some (.string r.1) := (hb1.cell (p := ⟨b, off + k * 3, none⟩) (by show b < _; omega)).trans x0
            simp only [Nat.zero_add, List.nil_append] at hown1 hc1
            have hz1 := hb1.size
            rw [World.size_alloc] at hz1
            have HO1 := Lib.hid hown1; have HB1 := Lib.hid hb1; have HC1 := Lib.hid hc1; have HM1 := Lib.hid hm1
            clear hown1 hg1 hb1 hc1 hm1
            go_wp2_with (at_builtin; refine halt_ ?_)
            refine unhalt ?_
            refine wpList_append_sl (base := w.heap.size + 1) _ rfl (.tmp 53) (.tmp 56) 22 rfl 56 i0 _ 32 Tryd.underlying22 Hi.out Hz0.out Hz1.out Hz2.out rfl (by decide) _ (k) (flat rfC (rs.take k)) rfl HO1.out B _ (n0 - (k + 1)) _ (flat rfC (rs.drop (k + 1))) rfl ?hs3 (oneCells_rf _) ?b7 ?b8 ?b9 ?_
            case hs3 => rw [flat_drop rfC_len]; exact HAk.out _ B _ (H0.out.below HB1.out (by omega))
            case b7 => simp only [maxLen]; omega
            case b8 => omega
            case b9 => omega
            intro A3 c3 w3 hown3 hg3 hc3 hm3
            try (rw [show k + (n0 - k) = n0 from by omega] at hown3 hc3)
            have hb3 : Below (w.heap.size + 1) (w.alloc (.cells #[.int .u64 d0, .int .u64 d1] 28)) w3 := HB1.out.grown hg3 (by omega) (fun g hg => ownBlock_ge HO1.out g hg)
            have HO3 := Lib.hid hown3; have HB3 := Lib.hid hb3; have HC3 := Lib.hid hc3; have HM3 := Lib.hid hm3
            clear hown3 hg3 hb3 hc3 hm3
            go_wp2
            have hset : setL rs s (d0, d1) = rs.take k ++ midL s (d0, d1) ++ rs.drop (k + 1) := setL_hit _ k hall.out HRK.out HLL.out HE.out
            rw [HR.out _ hset]
            have e : flat rfC (rs.take k) ++ flat rfC (rs.drop (k + 1)) = flat rfC (rs.take k ++ midL s (d0, d1) ++ rs.drop (k + 1)) := by rw [show midL s (d0, d1) = [] from if_pos HZ.out, List.append_nil, flat_append]
            have hown := HO3.out
            rw [e] at hown
            exact ⟨A3, _, c3, rfl, Sl.of_own hown, HC3.out, HM3.out, ((Below.refl _ w).alloc (Nat.le_refl _) _).trans (HB3.out.mono (by omega)), ownsRow_lower hown (by omega)⟩
          · have t3 := dig_eq_false hz
            simp only at t3
            have HZ := Lib.hid hz
            clear hz
            go_wp2_with (at_builtin; refine halt_ ?_)
            refine unhalt ?_
            refine wpList_append_sl (base := w.heap.size + 1) _ rfl (.tmp 24) (.tmp 27) 22 rfl 56 i0 _ 32 Tryd.underlying22 Hi.out Hz0.out Hz1.out Hz2.out rfl (by decide) _ 0 [] rfl ?ow B _ k _ (flat rfC (rs.take k)) rfl ?hs1 (oneCells_rf _) ?b1 ?b2 ?b3 ?_
            case ow => exact own_empty1 w _ (Nat.le_refl _)
            case hs1 => exact (H0.out.take_ rfC_len (by omega) hk).alloc (by simp; omega) _
            case b1 => simp [maxLen]; omega
            case b2 => omega
            case b3 => simp
            intro A1 c1 w1 hown1 hg1 hc1 hm1
            have hb1 : Below (w.heap.size + 1) (w.alloc (.cells #[.int .u64 d0, .int .u64 d1] 28)) w1 := ((Below.refl _ _).alloc (by simp) _).grown hg1 (by simp) (fun g hg => by cases hg; simp)
            have y0 : w1.cell? ⟨w.heap.size, 0, none⟩ = some (.int .u64 d0) := (hb1.cell (p := ⟨w.heap.size, 0, none⟩) (by simp)).trans (by simp)
            have y1 : w1.cell? ⟨w.heap.size, 1, none⟩ = some (.int .u64 d1) := (hb1.cell (p := ⟨w.heap.size, 1, none⟩) (by simp)).trans (by simp)
            have x1 : w1.cell? ⟨b, off + k * 3, none⟩ = some (.string r.1) := (hb1.cell (p := ⟨b, off + k * 3, none⟩) (by show b < _; omega)).trans x0
            simp only [Nat.zero_add, List.nil_append] at hown1 hc1
            have hz1 := hb1.size
            rw [World.size_alloc] at hz1
            have HO1 := Lib.hid hown1; have HB1 := Lib.hid hb1; have HC1 := Lib.hid hc1; have HM1 := Lib.hid hm1
            clear hown1 hg1 hb1 hc1 hm1
            go_wp2_with (at_builtin; refine halt_ ?_)
            refine unhalt ?_
            refine wpList_append_sl (base := w.heap.size + 1) _ rfl (.tmp 32) (.tmp 36) 22 rfl 56 i0 _ 32 Tryd.underlying22 Hi.out Hz0.out Hz1.out Hz2.out rfl (by decide) _ k (flat rfC (rs.take k)) rfl (HO1.out.alloc _) (w1.heap.size + 1) _ 1 _ (flat rfC [(s, (d0, d1))]) rfl ?hs2 (oneCells_rf _) ?b4 ?b5 ?b6 ?_
            case hs2 => exact Sl.new w1 56 (flat rfC [(s, (d0, d1))]) 1 rfl
            case b4 => simp [maxLen]; omega
            case b5 => omega
            case b6 => simp; omega
            intro A2 c2 w2 hown2 hg2 hc2 hm2
            have hb2 : Below (w.heap.size + 1) (w.alloc (.cells #[.int .u64 d0, .int .u64 d1] 28)) w2 := (HB1.out.alloc hz1 _).grown hg2 (by simp; omega) (fun g hg => ownBlock_ge HO1.out g hg)
            have x2 : w2.cell? ⟨b, off + k * 3, none⟩ = some (.string r.1) := (hb2.cell (p := ⟨b, off + k * 3, none⟩) (by show b < _; omega)).trans x0
            have hz2 := hb2.size
            rw [World.size_alloc] at hz2
            have HO2 := Lib.hid hown2; have HB2 := Lib.hid hb2; have HC2 := Lib.hid hc2; have HM2 := Lib.hid hm2
            clear hown2 hg2 hb2 hc2 hm2
            go_wp2_with (at_builtin; refine halt_ ?_)
            refine unhalt ?_
            refine wpList_append_sl (base := w.heap.size + 1) _ rfl (.tmp 53) (.tmp 56) 22 rfl 56 i0 _ 32 Tryd.underlying22 Hi.out Hz0.out Hz1.out Hz2.out rfl (by decide) _ (k + 1) (flat rfC (rs.take k) ++ flat rfC [(s, (d0, d1))]) rfl HO2.out B _ (n0 - (k + 1)) _ (flat rfC (rs.drop (k + 1))) rfl ?hs3 (oneCells_rf _) ?b7 ?b8 ?b9 ?_
            case hs3 => rw [flat_drop rfC_len]; exact HAk.out _ B _ (H0.out.below HB2.out (by omega))
            case b7 => simp only [maxLen]; omega
            case b8 => omega
            case b9 => omega
            intro A3 c3 w3 hown3 hg3 hc3 hm3
            try (rw [show k + (n0 - k) = n0 from by omega] at hown3 hc3)
            have hb3 : Below (w.heap.size + 1) (w.alloc (.cells #[.int .u64 d0, .int .u64 d1] 28)) w3 := HB2.out.grown hg3 (by omega) (fun g hg => ownBlock_ge HO2.out g hg)
            have HO3 := Lib.hid hown3; have HB3 := Lib.hid hb3; have HC3 := Lib.hid hc3; have HM3 := Lib.hid hm3
            clear hown3 hg3 hb3 hc3 hm3
            go_wp2
            have hset : setL rs s (d0, d1) = rs.take k ++ midL s (d0, d1) ++ rs.drop (k + 1) := setL_hit _ k hall.out HRK.out HLL.out HE.out
            rw [HR.out _ hset]
            have e : flat rfC (rs.take k) ++ flat rfC [(s, (d0, d1))] ++ flat rfC (rs.drop (k + 1)) = flat rfC (rs.take k ++ midL s (d0, d1) ++ rs.drop (k + 1)) := by rw [show midL s (d0, d1) = [(s, (d0, d1))] from if_neg HZ.out, flat_append, flat_append]
            have hown := HO3.out
            rw [e] at hown
            exact ⟨A3, _, c3, rfl, Sl.of_own hown, HC3.out, HM3.out, ((Below.refl _ w).alloc (Nat.le_refl _) _).trans (HB3.out.mono (by omega)), ownsRow_lower hown (by omega)⟩
        · have t2 : (r.1.toList == s.toList) = false := by
            rw [beq_eq_false_iff_ne, ByteArray.toList_eq, ByteArray.toList_eq]; exact fun h => he (data_inj h)
          obtain ⟨Ak, hAr, hAk⟩ := run_slice_from (P := Tryd.prog) 22 i0 Tryd.underlying22 Hi.out Hz1.out (some ⟨b, off, none⟩) n0 c0 k (by omega) hnc
          have HAk := Lib.hid hAk
          have HE := Lib.hid he; have HLL := Lib.hid hl
          clear he hl hAk
          by_cases hz : ((d0, d1) : Dig) = (0, 0)
          · have t3 := dig_eq_true hz
            simp only at t3
            have HZ := Lib.hid hz
            clear hz
            go_wp2_with (at_builtin; refine halt_ ?_)
            refine unhalt ?_
            refine wpList_append_sl (base := w.heap.size + 1) _ rfl (.tmp 24) (.tmp 27) 22 rfl 56 i0 _ 32 Tryd.underlying22 Hi.out Hz0.out Hz1.out Hz2.out rfl (by decide) _ 0 [] rfl ?ow B _ k _ (flat rfC (rs.take k)) rfl ?hs1 (oneCells_rf _) ?b1 ?b2 ?b3 ?_
            case ow => exact own_empty1 w _ (Nat.le_refl _)
            case hs1 => exact (H0.out.take_ rfC_len (by omega) hk).alloc (by simp; omega) _
            case b1 => simp [maxLen]; omega
            case b2 => omega
            case b3 => simp
            intro A1 c1 w1 hown1 hg1 hc1 hm1
            have hb1 : Below (w.heap.size + 1) (w.alloc (.cells #[.int .u64 d0, .int .u64 d1] 28)) w1 := ((Below.refl _ _).alloc (by simp) _).grown hg1 (by simp) (fun g hg => by cases hg; simp)
            have y0 : w1.cell? ⟨w.heap.size, 0, none⟩ = some (.int .u64 d0) := (hb1.cell (p := ⟨w.heap.size, 0, none⟩) (by simp)).trans (by simp)
            have y1 : w1.cell? ⟨w.heap.size, 1, none⟩ = some (.int .u64 d1) := (hb1.cell (p := ⟨w.heap.size, 1, none⟩) (by simp)).trans (by simp)
            have x1 : w1.cell? ⟨b, off + k * 3, none⟩ = some (.string r.1) := (hb1.cell (p := ⟨b, off + k * 3, none⟩) (by show b < _; omega)).trans x0
            simp only [Nat.zero_add, List.nil_append] at hown1 hc1
            have hz1 := hb1.size
            rw [World.size_alloc] at hz1
            have HO1 := Lib.hid hown1; have HB1 := Lib.hid hb1; have HC1 := Lib.hid hc1; have HM1 := Lib.hid hm1
            clear hown1 hg1 hb1 hc1 hm1
            go_wp2_with (at_builtin; refine halt_ ?_)
            refine unhalt ?_
            refine wpList_append_sl (base := w.heap.size + 1) _ rfl (.tmp 53) (.tmp 56) 22 rfl 56 i0 _ 32 Tryd.underlying22 Hi.out Hz0.out Hz1.out Hz2.out rfl (by decide) _ (k) (flat rfC (rs.take k)) rfl HO1.out B _ (n0 - k) _ (flat rfC (rs.drop (k))) rfl ?hs3 (oneCells_rf _) ?b7 ?b8 ?b9 ?_
            case hs3 => rw [flat_drop rfC_len]; exact HAk.out _ B _ (H0.out.below HB1.out (by omega))
            case b7 => simp only [maxLen]; omega
            case b8 => omega
            case b9 => omega
            intro A3 c3 w3 hown3 hg3 hc3 hm3
            try (rw [show k + (n0 - k) = n0 from by omega] at hown3 hc3)
            have hb3 : Below (w.heap.size + 1) (w.alloc (.cells #[.int .u64 d0, .int .u64 d1] 28)) w3 := HB1.out.grown hg3 (by omega) (fun g hg => ownBlock_ge HO1.out g hg)
            have HO3 := Lib.hid hown3; have HB3 := Lib.hid hb3; have HC3 := Lib.hid hc3; have HM3 := Lib.hid hm3
            clear hown3 hg3 hb3 hc3 hm3
            go_wp2
            have hset : setL rs s (d0, d1) = rs.take k ++ midL s (d0, d1) ++ rs.drop (k) := setL_miss _ k hall.out HRK.out HLL.out HE.out
            rw [HR.out _ hset]
            have e : flat rfC (rs.take k) ++ flat rfC (rs.drop (k)) = flat rfC (rs.take k ++ midL s (d0, d1) ++ rs.drop (k)) := by rw [show midL s (d0, d1) = [] from if_pos HZ.out, List.append_nil, flat_append]
            have hown := HO3.out
            rw [e] at hown
            exact ⟨A3, _, c3, rfl, Sl.of_own hown, HC3.out, HM3.out, ((Below.refl _ w).alloc (Nat.le_refl _) _).trans (HB3.out.mono (by omega)), ownsRow_lower hown (by omega)⟩
          · have t3 := dig_eq_false hz
            simp only at t3
            have HZ := Lib.hid hz
            clear hz
            go_wp2_with (at_builtin; refine halt_ ?_)
            refine unhalt ?_
            refine wpList_append_sl (base := w.heap.size + 1) _ rfl (.tmp 24) (.tmp 27) 22 rfl 56 i0 _ 32 Tryd.underlying22 Hi.out Hz0.out Hz1.out Hz2.out rfl (by decide) _ 0 [] rfl ?ow B _ k _ (flat rfC (rs.take k)) rfl ?hs1 (oneCells_rf _) ?b1 ?b2 ?b3 ?_
            case ow => exact own_empty1 w _ (Nat.le_refl _)
            case hs1 => exact (H0.out.take_ rfC_len (by omega) hk).alloc (by simp; omega) _
            case b1 => simp [maxLen]; omega
            case b2 => omega
            case b3 => simp
            intro A1 c1 w1 hown1 hg1 hc1 hm1
            have hb1 : Below (w.heap.size + 1) (w.alloc (.cells #[.int .u64 d0, .int .u64 d1] 28)) w1 := ((Below.refl _ _).alloc (by simp) _).grown hg1 (by simp) (fun g hg => by cases hg; simp)
            have y0 : w1.cell? ⟨w.heap.size, 0, none⟩ = some (.int .u64 d0) := (hb1.cell (p := ⟨w.heap.size, 0, none⟩) (by simp)).trans (by simp)
            have y1 : w1.cell? ⟨w.heap.size, 1, none⟩ = some (.int .u64 d1) := (hb1.cell (p := ⟨w.heap.size, 1, none⟩) (by simp)).trans (by simp)
            have x1 : w1.cell? ⟨b, off + k * 3, none⟩ = some (.string r.1) := (hb1.cell (p := ⟨b, off + k * 3, none⟩) (by show b < _; omega)).trans x0
            simp only [Nat.zero_add, List.nil_append] at hown1 hc1
            have hz1 := hb1.size
            rw [World.size_alloc] at hz1
            have HO1 := Lib.hid hown1; have HB1 := Lib.hid hb1; have HC1 := Lib.hid hc1; have HM1 := Lib.hid hm1
            clear hown1 hg1 hb1 hc1 hm1
            go_wp2_with (at_builtin; refine halt_ ?_)
            refine unhalt ?_
            refine wpList_append_sl (base := w.heap.size + 1) _ rfl (.tmp 32) (.tmp 36) 22 rfl 56 i0 _ 32 Tryd.underlying22 Hi.out Hz0.out Hz1.out Hz2.out rfl (by decide) _ k (flat rfC (rs.take k)) rfl (HO1.out.alloc _) (w1.heap.size + 1) _ 1 _ (flat rfC [(s, (d0, d1))]) rfl ?hs2 (oneCells_rf _) ?b4 ?b5 ?b6 ?_
            case hs2 => exact Sl.new w1 56 (flat rfC [(s, (d0, d1))]) 1 rfl
            case b4 => simp [maxLen]; omega
            case b5 => omega
            case b6 => simp; omega
            intro A2 c2 w2 hown2 hg2 hc2 hm2
            have hb2 : Below (w.heap.size + 1) (w.alloc (.cells #[.int .u64 d0, .int .u64 d1] 28)) w2 := (HB1.out.alloc hz1 _).grown hg2 (by simp; omega) (fun g hg => ownBlock_ge HO1.out g hg)
            have x2 : w2.cell? ⟨b, off + k * 3, none⟩ = some (.string r.1) := (hb2.cell (p := ⟨b, off + k * 3, none⟩) (by show b < _; omega)).trans x0
            have hz2 := hb2.size
            rw [World.size_alloc] at hz2
            have HO2 := Lib.hid hown2; have HB2 := Lib.hid hb2; have HC2 := Lib.hid hc2; have HM2 := Lib.hid hm2
            clear hown2 hg2 hb2 hc2 hm2
            go_wp2_with (at_builtin; refine halt_ ?_)
            refine unhalt ?_
            refine wpList_append_sl (base := w.heap.size + 1) _ rfl (.tmp 53) (.tmp 56) 22 rfl 56 i0 _ 32 Tryd.underlying22 Hi.out Hz0.out Hz1.out Hz2.out rfl (by decide) _ (k + 1) (flat rfC (rs.take k) ++ flat rfC [(s, (d0, d1))]) rfl HO2.out B _ (n0 - k) _ (flat rfC (rs.drop (k))) rfl ?hs3 (oneCells_rf _) ?b7 ?b8 ?b9 ?_
            case hs3 => rw [flat_drop rfC_len]; exact HAk.out _ B _ (H0.out.below HB2.out (by omega))
            case b7 => simp only [maxLen]; omega
            case b8 => omega
            case b9 => omega
            intro A3 c3 w3 hown3 hg3 hc3 hm3
            try (rw [show k + (n0 - k) = n0 from by omega] at hown3 hc3)
            have hb3 : Below (w.heap.size + 1) (w.alloc (.cells #[.int .u64 d0, .int .u64 d1] 28)) w3 := HB2.out.grown hg3 (by omega) (fun g hg => ownBlock_ge HO2.out g hg)
            have HO3 := Lib.hid hown3; have HB3 := Lib.hid hb3; have HC3 := Lib.hid hc3; have HM3 := Lib.hid hm3
            clear hown3 hg3 hb3 hc3 hm3
            go_wp2
            have hset : setL rs s (d0, d1) = rs.take k ++ midL s (d0, d1) ++ rs.drop (k) := setL_miss _ k hall.out HRK.out HLL.out HE.out
            rw [HR.out _ hset]
            have e : flat rfC (rs.take k) ++ flat rfC [(s, (d0, d1))] ++ flat rfC (rs.drop (k)) = flat rfC (rs.take k ++ midL s (d0, d1) ++ rs.drop (k)) := by rw [show midL s (d0, d1) = [(s, (d0, d1))] from if_neg HZ.out, flat_append, flat_append]
            have hown := HO3.out
            rw [e] at hown
            exact ⟨A3, _, c3, rfl, Sl.of_own hown, HC3.out, HM3.out, ((Below.refl _ w).alloc (Nat.le_refl _) _).trans (HB3.out.mono (by omega)), ownsRow_lower hown (by omega)⟩
    · obtain ⟨Ak, hAr, hAk⟩ := run_slice_from (P := Tryd.prog) 22 i0 Tryd.underlying22 Hi.out Hz1.out A0 n0 c0 k (by omega) hnc
      have HAk := Lib.hid hAk
      clear hAk
      have tl : decide (k < n0) = false := by simp; omega
      by_cases hz : ((d0, d1) : Dig) = (0, 0)
      · have t3 := dig_eq_true hz
        simp only at t3
        have HZ := Lib.hid hz
        clear hz
        go_wp2_with (at_builtin; refine halt_ ?_)
        refine unhalt ?_
        refine wpList_append_sl (base := w.heap.size + 1) _ rfl (.tmp 24) (.tmp 27) 22 rfl 56 i0 _ 32 Tryd.underlying22 Hi.out Hz0.out Hz1.out Hz2.out rfl (by decide) _ 0 [] rfl ?ow B _ k _ (flat rfC (rs.take k)) rfl ?hs1 (oneCells_rf _) ?b1 ?b2 ?b3 ?_
        case ow => exact own_empty1 w _ (Nat.le_refl _)
        case hs1 => exact (H0.out.take_ rfC_len (by omega) hk).alloc (by simp; omega) _
        case b1 => simp [maxLen]; omega
        case b2 => omega
        case b3 => simp
        intro A1 c1 w1 hown1 hg1 hc1 hm1
        have hb1 : Below (w.heap.size + 1) (w.alloc (.cells #[.int .u64 d0, .int .u64 d1] 28)) w1 := ((Below.refl _ _).alloc (by simp) _).grown hg1 (by simp) (fun g hg => by cases hg; simp)
        have y0 : w1.cell? ⟨w.heap.size, 0, none⟩ = some (.int .u64 d0) := (hb1.cell (p := ⟨w.heap.size, 0, none⟩) (by simp)).trans (by simp)
        have y1 : w1.cell? ⟨w.heap.size, 1, none⟩ = some (.int .u64 d1) := (hb1.cell (p := ⟨w.heap.size, 1, none⟩) (by simp)).trans (by simp)
        simp only [Nat.zero_add, List.nil_append] at hown1 hc1
        have hz1 := hb1.size
        rw [World.size_alloc] at hz1
        have HO1 := Lib.hid hown1; have HB1 := Lib.hid hb1; have HC1 := Lib.hid hc1; have HM1 := Lib.hid hm1
        clear hown1 hg1 hb1 hc1 hm1
        go_wp2_with (at_builtin; refine halt_ ?_)
        refine unhalt ?_
        refine wpList_append_sl (base := w.heap.size + 1) _ rfl (.tmp 53) (.tmp 56) 22 rfl 56 i0 _ 32 Tryd.underlying22 Hi.out Hz0.out Hz1.out Hz2.out rfl (by decide) _ (k) (flat rfC (rs.take k)) rfl HO1.out B _ (n0 - k) _ (flat rfC (rs.drop (k))) rfl ?hs3 (oneCells_rf _) ?b7 ?b8 ?b9 ?_
        case hs3 => rw [flat_drop rfC_len]; exact HAk.out _ B _ (H0.out.below HB1.out (by omega))
        case b7 => simp only [maxLen]; omega
        case b8 => omega
        case b9 => omega
        intro A3 c3 w3 hown3 hg3 hc3 hm3
        try (rw [show k + (n0 - k) = n0 from by omega] at hown3 hc3)
        have hb3 : Below (w.heap.size + 1) (w.alloc (.cells #[.int .u64 d0, .int .u64 d1] 28)) w3 := HB1.out.grown hg3 (by omega) (fun g hg => ownBlock_ge HO1.out g hg)
        have HO3 := Lib.hid hown3; have HB3 := Lib.hid hb3; have HC3 := Lib.hid hc3; have HM3 := Lib.hid hm3
        clear hown3 hg3 hb3 hc3 hm3
        go_wp2
        have hset : setL rs s (d0, d1) = rs.take k ++ midL s (d0, d1) ++ rs.drop (k) := setL_end _ k hall.out (by rw [HL0.out]; omega)
        rw [HR.out _ hset]
        have e : flat rfC (rs.take k) ++ flat rfC (rs.drop (k)) = flat rfC (rs.take k ++ midL s (d0, d1) ++ rs.drop (k)) := by rw [show midL s (d0, d1) = [] from if_pos HZ.out, List.append_nil, flat_append]
        have hown := HO3.out
        rw [e] at hown
        exact ⟨A3, _, c3, rfl, Sl.of_own hown, HC3.out, HM3.out, ((Below.refl _ w).alloc (Nat.le_refl _) _).trans (HB3.out.mono (by omega)), ownsRow_lower hown (by omega)⟩
      · have t3 := dig_eq_false hz
        simp only at t3
        have HZ := Lib.hid hz
        clear hz
        go_wp2_with (at_builtin; refine halt_ ?_)
        refine unhalt ?_
        refine wpList_append_sl (base := w.heap.size + 1) _ rfl (.tmp 24) (.tmp 27) 22 rfl 56 i0 _ 32 Tryd.underlying22 Hi.out Hz0.out Hz1.out Hz2.out rfl (by decide) _ 0 [] rfl ?ow B _ k _ (flat rfC (rs.take k)) rfl ?hs1 (oneCells_rf _) ?b1 ?b2 ?b3 ?_
        case ow => exact own_empty1 w _ (Nat.le_refl _)
        case hs1 => exact (H0.out.take_ rfC_len (by omega) hk).alloc (by simp; omega) _
        case b1 => simp [maxLen]; omega
        case b2 => omega
        case b3 => simp
        intro A1 c1 w1 hown1 hg1 hc1 hm1
        have hb1 : Below (w.heap.size + 1) (w.alloc (.cells #[.int .u64 d0, .int .u64 d1] 28)) w1 := ((Below.refl _ _).alloc (by simp) _).grown hg1 (by simp) (fun g hg => by cases hg; simp)
        have y0 : w1.cell? ⟨w.heap.size, 0, none⟩ = some (.int .u64 d0) := (hb1.cell (p := ⟨w.heap.size, 0, none⟩) (by simp)).trans (by simp)
        have y1 : w1.cell? ⟨w.heap.size, 1, none⟩ = some (.int .u64 d1) := (hb1.cell (p := ⟨w.heap.size, 1, none⟩) (by simp)).trans (by simp)
        simp only [Nat.zero_add, List.nil_append] at hown1 hc1
        have hz1 := hb1.size
        rw [World.size_alloc] at hz1
        have HO1 := Lib.hid hown1; have HB1 := Lib.hid hb1; have HC1 := Lib.hid hc1; have HM1 := Lib.hid hm1
        clear hown1 hg1 hb1 hc1 hm1
        go_wp2_with (at_builtin; refine halt_ ?_)
        refine unhalt ?_
        refine wpList_append_sl (base := w.heap.size + 1) _ rfl (.tmp 32) (.tmp 36) 22 rfl 56 i0 _ 32 Tryd.underlying22 Hi.out Hz0.out Hz1.out Hz2.out rfl (by decide) _ k (flat rfC (rs.take k)) rfl (HO1.out.alloc _) (w1.heap.size + 1) _ 1 _ (flat rfC [(s, (d0, d1))]) rfl ?hs2 (oneCells_rf _) ?b4 ?b5 ?b6 ?_
        case hs2 => exact Sl.new w1 56 (flat rfC [(s, (d0, d1))]) 1 rfl
        case b4 => simp [maxLen]; omega
        case b5 => omega
        case b6 => simp; omega
        intro A2 c2 w2 hown2 hg2 hc2 hm2
        have hb2 : Below (w.heap.size + 1) (w.alloc (.cells #[.int .u64 d0, .int .u64 d1] 28)) w2 := (HB1.out.alloc hz1 _).grown hg2 (by simp; omega) (fun g hg => ownBlock_ge HO1.out g hg)
        have hz2 := hb2.size
        rw [World.size_alloc] at hz2
        have HO2 := Lib.hid hown2; have HB2 := Lib.hid hb2; have HC2 := Lib.hid hc2; have HM2 := Lib.hid hm2
        clear hown2 hg2 hb2 hc2 hm2
        go_wp2_with (at_builtin; refine halt_ ?_)
        refine unhalt ?_
        refine wpList_append_sl (base := w.heap.size + 1) _ rfl (.tmp 53) (.tmp 56) 22 rfl 56 i0 _ 32 Tryd.underlying22 Hi.out Hz0.out Hz1.out Hz2.out rfl (by decide) _ (k + 1) (flat rfC (rs.take k) ++ flat rfC [(s, (d0, d1))]) rfl HO2.out B _ (n0 - k) _ (flat rfC (rs.drop (k))) rfl ?hs3 (oneCells_rf _) ?b7 ?b8 ?b9 ?_
        case hs3 => rw [flat_drop rfC_len]; exact HAk.out _ B _ (H0.out.below HB2.out (by omega))
        case b7 => simp only [maxLen]; omega
        case b8 => omega
        case b9 => omega
        intro A3 c3 w3 hown3 hg3 hc3 hm3
        try (rw [show k + (n0 - k) = n0 from by omega] at hown3 hc3)
        have hb3 : Below (w.heap.size + 1) (w.alloc (.cells #[.int .u64 d0, .int .u64 d1] 28)) w3 := HB2.out.grown hg3 (by omega) (fun g hg => ownBlock_ge HO2.out g hg)
        have HO3 := Lib.hid hown3; have HB3 := Lib.hid hb3; have HC3 := Lib.hid hc3; have HM3 := Lib.hid hm3
        clear hown3 hg3 hb3 hc3 hm3
        go_wp2
        have hset : setL rs s (d0, d1) = rs.take k ++ midL s (d0, d1) ++ rs.drop (k) := setL_end _ k hall.out (by rw [HL0.out]; omega)
        rw [HR.out _ hset]
        have e : flat rfC (rs.take k) ++ flat rfC [(s, (d0, d1))] ++ flat rfC (rs.drop (k)) = flat rfC (rs.take k ++ midL s (d0, d1) ++ rs.drop (k)) := by rw [show midL s (d0, d1) = [(s, (d0, d1))] from if_neg HZ.out, flat_append, flat_append]
        have hown := HO3.out
        rw [e] at hown
        exact ⟨A3, _, c3, rfl, Sl.of_own hown, HC3.out, HM3.out, ((Below.refl _ w).alloc (Nat.le_refl _) _).trans (HB3.out.mono (by omega)), ownsRow_lower hown (by omega)⟩
end Go.Proofs.YtikmiabncbhioaaDoor
