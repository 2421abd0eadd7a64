/-
  Lemmas: slices.Insert and slices.Delete of one file. strings.Cut at a slash. Storing lists of files as objects: what is computed; in plain Lean. DERIVED: THE SHELF's CONTRACTS AT THIS DUMP, IN PLAIN WORDS (tools/lay-plain.mjs out of 'TryzSsp.lean', which tools/lay-shelf.mjs wrote): THE SAME DECLARATIONS UNDER THE SAME NAMES: 'import', 'namespace', 'open', 'def', 'theorem' AND NOTHING ELSE: no command of the shelf's: FOR A HAND-IN. Each laying: the table of numbers ('.._ren') and one theorem, a field a fact of the dump's own or the kernel's comparison; each contract: ONE APPLICATION. graph.find by dependences, and graph.Deps. A map's keys collected and appended: slices.Collect, slices.AppendSeq over maps.Keys. The two maps of tree.store: what they hold of the files that have been looked at.
-/
import Derived.Lib.Overlaps
import Derived.Laws.IdiomCopy
import Derived.Deep.RegionLaw
import Derived.Shelf.SlicesQ.IndexFunc
import Derived.Shelf.Strings.Split
import Derived.Shelf.SlIter.Stops
import Derived.Ground.SlgfProg
import Derived.Ground.GgzProg
import Derived.Ground.NamesProg
import Derived.Test.YtmdhlkkekidknaaGreatDoorProg
import Derived.Test.YtmdhlkkekidknaaGreatDoorWCTli6
import Derived.Test.YtmdhlkkekidknaaGreatDoorWCTli4
import Derived.Test.YtmdhlkkekidknaaGreatDoorWCTli3
import Derived.Test.YtmdhlkkekidknaaGreatDoorWCTli1
import Derived.Test.YtmdhlkkekidknaaGreatDoorWCTli2

namespace Go.Proofs.YtmdhlkkekidknaaGreatDoor
open Go.RowKit Go.Shelf

section
variable {P : Program}
theorem run_copy_k (w : World) (dT sT ty elem : TypeId) (s b o dLen dCap : Nat) (a : Addr) (sLen sCap m : Nat) (cs : List Value) (hu : P.underlying dT = some (.slice elem)) (hs : (P.info? elem).map (·.size) = some s) (hm : Nat.min sLen dLen = m) (hn : cs.length = m * s)
    (hsrc : ∀ j v, cs[j]? = some v → w.cell? (a.add j) = some v) (hc : ∀ j, j < cs.length → (w.cell? ⟨b, o + j, none⟩).isSome = true) (hf : ∀ j, j < cs.length → w.frozen? ⟨b, o + j, none⟩ = false) (h1 : ∀ v ∈ cs, v.oneCell' = true) :
    (Builtin.copy_ #[dT, sT] ty #[.slice (some ⟨b, o, none⟩) dLen dCap, .slice (some a) sLen sCap]).run P w = .ok (goInt m) (w.setCells b o cs) := by
  have hl := run_loadCells_list (P := P) w a cs hsrc
  have hst := run_storeCells_cells (P := P) b o cs 0 w (by simpa using hc) (by simpa using hf) h1
  rw [hn] at hl
  cases hq : P.info? elem with
  | none => simp [hq] at hs
  | some i =>
    have hi : i.size = s := by simpa [hq] using hs
    simp [Builtin.copy_, run_underlying hu, Builtin.lenOf, Builtin.firstCells, sizeOf, typeInfo, hq, hi, hm, hl, hst]
theorem wpList_copy_run (w : World) {ops : Array Oper} {rest : List Oper} {o : Oper} {a : Act} {Q : Exit → Act → World → Prop} (hgd : o.guard = none) (d s : Operand) (t t' : TypeId)
    (ho : o.op = .call { callee := .builtin .copy, args := #[d, s], argTypes := #[t, t'] }) (v u : Value) (hd : a.eval d = v) (hs : a.eval s = u) {v' : Value} {w' : World}
    (hr : (Builtin.copy_ #[t, t'] o.type #[v, u]).run P w = .ok v' w') (h : wpList P ops Q rest (a.put o.dst v') w') : wpList P ops Q (o :: rest) a w := by
  refine wpList_plain hgd fun K hK => ?_
  unfold Oper.wp execOp
  simp only [ho, resolve, invoke, builtin, Sem.run_bind, Sem.run_pure, Result.andThen_ok, List.map_toArray, List.map_cons, List.map_nil, hd, hs, hr]
  exact hK _ _ h
theorem step_copy_run {ops : Array Oper} {o : Oper} {a : Act} {w : World} {K : Act → World → Prop} {Q : Exit → Act → World → Prop} {E : Prop}
    (hg : o.guard = none) (d x : Operand) (dT sT : TypeId) (hop : o.op = Op.call { callee := Callee.builtin Builtin.copy, args := #[d, x], argTypes := #[dT, sT] })
    (v u : Value) (hd : a.eval d = v) (hx : a.eval x = u) {v' : Value} {w' : World} (hr : (Builtin.copy_ #[dT, sT] o.type #[v, u]).run P w = .ok v' w') (hK : K (a.put o.dst v') w') :
    if Region.wanted o (yielded ops a.tmps) = true then Oper.wp P o a w K Q else E := by
  have hw : Region.wanted o (yielded ops a.tmps) = true := by simp [Region.wanted, hg]
  rw [if_pos hw]
  unfold Oper.wp
  simp [execOp, hop, resolve, invoke, builtin, hd, hx, hr, Result.andThen]
  exact hK
end
theorem below_setCells {B b : Nat} {w0 : World} (hb : B ≤ b) : ∀ (vs : List Value) (o : Nat) (w : World), Below B w0 w → Below B w0 (w.setCells b o vs)
  | [], _, _, h => h
  | v :: r, o, _, h => below_setCells hb r (o + 1) _ (h.setCell (p := ⟨b, o, none⟩) hb v)
theorem size_setCells (b : Nat) : ∀ (vs : List Value) (o : Nat) (w : World), (w.setCells b o vs).heap.size = w.heap.size
  | [], _, _ => rfl
  | v :: r, _, _ => by rw [World.setCells, size_setCells b r]; simp [World.setCell]
theorem some_setCells (b : Nat) (vs : List Value) (o : Nat) (w : World) (h : ∀ j, j < vs.length → (w.cell? ⟨b, o + j, none⟩).isSome = true) (k : Nat) (hk : (w.cell? ⟨b, k, none⟩).isSome = true) : ((w.setCells b o vs).cell? ⟨b, k, none⟩).isSome = true := by
  by_cases hin : o ≤ k ∧ k < o + vs.length
  · have := World.cell?_setCells_in b vs o w h (k - o) (by omega)
    rw [show o + (k - o) = k by omega] at this
    rw [this]; rfl
  · rw [World.cell?_setCells_out b vs o w ⟨b, k, none⟩ (fun _ _ => by show k < o ∨ o + vs.length ≤ k; omega)]
    exact hk
theorem flC_one' (l : List Fl) : ∀ u ∈ flat flC l, u.oneCell' = true := fun u hu => by
  unfold flat at hu
  obtain ⟨i, _, h⟩ := List.mem_flatMap.1 hu
  simp [flC] at h
  rcases h with rfl | rfl <;> rfl
theorem infoFlI : (Tryz.prog.info? 68).map (fun i => (i.zero, i.size, i.bytes)) = some (some (.agg #[.string ⟨#[]⟩, .string ⟨#[]⟩]), 2, 32) := by kernel_rfl
theorem sizeFl : (Tryz.prog.info? 68).map (·.size) = some 2 := by
  obtain ⟨i0, hi, _, h1, _⟩ := info_parts infoFlI
  rw [hi]; simp [h1]
def insL (l : List Fl) (i : Nat) (f : Fl) : List Fl := l.take i ++ f :: l.drop i
theorem insL_cells (l : List Fl) (i : Nat) (f : Fl) : flat flC (insL l i f) = (flat flC l).take (i * 2) ++ (flC f ++ (flat flC l).drop (i * 2)) := by
  unfold insL
  rw [flat_append, flat_take flC_len]
  congr 1
  show flC f ++ flat flC (l.drop i) = _
  rw [flat_drop flC_len]
def InsFE (base : Nat) (l : List Fl) (i : Nat) (f : Fl) (w : World) (e : Ending) (w' : World) : Prop :=
  ∃ A c, e = .returned (.slice A (l.length + 1) c) ∧ Sl w' w'.heap.size 2 A (l.length + 1) (flat flC (insL l i f)) ∧ Below base w w' ∧ l.length + 1 ≤ c ∧ c ≤ maxLen
set_option maxRecDepth 100000 in
set_option maxHeartbeats 4000000 in
theorem insF_room (base g n c i vb : Nat) (l : List Fl) (f : Fl) (w : World) (ho : w.ownsRow base 68 2 (.slice (some ⟨g, 0, none⟩) n c) n (flat flC l)) (hln : l.length = n) (hi : i < n) (hroom : n + 1 ≤ c) (hn : n ≤ 1000000) (hvb : Bk w vb 68 #[.string f.1, .string f.2]) (hne : vb ≠ g) :
    Calls Tryz.prog 50 #[.slice (some ⟨g, 0, none⟩) n c, .int .i64 i, .slice (some ⟨vb, 0, none⟩) 1 1] w (InsFE base l i f w) := by
  obtain ⟨hxl, hform⟩ := ho
  rcases hform with ⟨hv, _⟩ | ⟨g', c', cur, hv, hb, hh, h1, h2, h3, h4⟩
  · cases hv
  injection hv with hv1 hv2 hv3
  injection hv1 with hv1
  injection hv1 with hv1
  subst hv1; subst hv3
  have hgn : vb ≠ g := hne
  have hcell : ∀ j v, (flat flC l)[j]? = some v → w.cell? ⟨g, j, none⟩ = some v := fun j v hj => by
    rw [← h4, List.getElem?_take] at hj
    split at hj
    · simp [World.cell?, hh]; simpa using hj
    · cases hj
  have hsp : ∀ j, j < (n + 1) * 2 → (w.cell? ⟨g, j, none⟩).isSome = true := fun j hj => by
    have : j < cur.size := by omega
    simp [World.cell?, hh, this]
  have hfz : ∀ j, w.frozen? ⟨g, j, none⟩ = false := fun j => by simp [World.frozen?, hh]
  have hsa : w.shape? vb = some (68, 2) := by
    have : w.heap[vb]? = _ := hvb
    simp [World.shape?, this]
  have hsb : w.shape? g = some (68, cur.size) := by simp [World.shape?, hh]
  have hov : ∀ o lb cb, (callFunc 101 #[.slice (some ⟨vb, 0, none⟩) 1 1, .slice (some ⟨g, o, none⟩) lb cb]).run Tryz.prog w = .ok (.value (.bool false)) w := fun o lb cb => by
    rw [run_callFunc_extern Tryz.func101 (by kernel_rfl) (by kernel_rfl) (by kernel_rfl) (e := Extern.SlicesOverlaps.overlaps #[24, 24] #[4]) (by kernel_rfl),
      Lib.run_overlaps_apart w 24 4 68 Tryz.underlying24 2 (Tryz.sizeOf68) ⟨vb, 0, none⟩ ⟨g, o, none⟩ 1 1 lb cb hgn 68 68 2 cur.size hsa hsb (by omega) (hvb.free 0) (hvb.free 2)]
    rfl
  obtain ⟨xs, hxs⟩ : ∃ xs, flat flC l = xs := ⟨_, rfl⟩
  have HONE : Hid (∀ u ∈ xs, u.oneCell' = true) := by rw [← hxs]; exact flC_one' l
  have HINS := Lib.hid (insL_cells l i f)
  rw [hxs] at hxl hcell HINS
  have hdl : (xs.drop (i * 2)).length = (n - i) * 2 := by rw [List.length_drop]; omega
  have hz2 : ¬ ((i : Int) = (n : Int)) := by omega
  have hz3 : ¬ ((c : Int) < (n : Int) + 1) := by omega
  have hw1 : IntKind.i64.wrap ((i : Int) + 1) = (i : Int) + 1 := by rw [IntKind.wrap_i64]; omega
  have hb1 : (0 : Int) ≤ (i : Int) + 1 := by omega
  have hin : i ≤ n := by omega
  have htn : ((i : Int) + 1).toNat = i + 1 := by omega
  have hb2 : ¬ (c = i + 1) := by omega
  have hb3 : (i : Int) ≤ (n : Int) + 1 := by omega
  have hb4 : ¬ (c = i) := by omega
  have hc63 : c ≤ 9223372036854775807 := by unfold maxLen at h2; exact h2
  have HH := Lib.hid hh; have HVB := Lib.hid hvb
  have HCL := Lib.hid hcell; have HSP := Lib.hid hsp; have HFZ := Lib.hid hfz
  obtain ⟨W1, hW1⟩ : ∃ W1, w.drew.setCells g ((i + 1) * 2) (xs.drop (i * 2)) = W1 := ⟨_, rfl⟩
  have hcp1 : ∀ ty, (Builtin.copy_ #[24, 24] ty #[.slice (some ⟨g, (i + 1) * 2, none⟩) (n + 1 - (i + 1)) (c - (i + 1)), .slice (some ⟨g, i * 2, none⟩) (n + 1 - i) (c - i)]).run Tryz.prog w.drew = .ok (goInt ((n - i : Nat) : Int)) W1 := fun ty => by
    rw [← hW1]
    exact run_copy_k w.drew 24 24 ty 68 2 g ((i + 1) * 2) (n + 1 - (i + 1)) (c - (i + 1)) ⟨g, i * 2, none⟩ (n + 1 - i) (c - i) (n - i) (xs.drop (i * 2)) Tryz.underlying24 sizeFl (by simp only [Nat.min_def]; split <;> omega) hdl
      (fun j v hj => by rw [Addr.add_lit]; exact hcell _ v (by rwa [List.getElem?_drop] at hj)) (fun j hj => hsp _ (by rw [hdl] at hj; omega)) (fun j hj => hfz _) (fun v hv => HONE.out v (List.mem_of_mem_drop hv))
  have hs1 : ∀ k, k < (n + 1) * 2 → (W1.cell? ⟨g, k, none⟩).isSome = true := fun k hk => by
    rw [← hW1]
    exact some_setCells g (xs.drop (i * 2)) ((i + 1) * 2) w.drew (fun j hj => hsp _ (by rw [hdl] at hj; omega)) k (hsp k hk)
  have hvc : W1.cell? ⟨vb, 0, none⟩ = some (.string f.1) ∧ W1.cell? ⟨vb, 1, none⟩ = some (.string f.2) := by
    rw [← hW1]
    rw [World.cell?_setCells_out g _ _ _ _ (fun h _ => absurd h hgn), World.cell?_setCells_out g _ _ _ _ (fun h _ => absurd h hgn)]
    exact ⟨hvb.cell 0, hvb.cell 1⟩
  have hcp2 : ∀ ty, (Builtin.copy_ #[24, 24] ty #[.slice (some ⟨g, i * 2, none⟩) (n + 1 - i) (c - i), .slice (some ⟨vb, 0, none⟩) 1 1]).run Tryz.prog W1 = .ok (goInt 1) (W1.setCells g (i * 2) (flC f)) := fun ty =>
    run_copy_k W1 24 24 ty 68 2 g (i * 2) (n + 1 - i) (c - i) ⟨vb, 0, none⟩ 1 1 1 (flC f) Tryz.underlying24 sizeFl (by simp only [Nat.min_def]; split <;> omega) rfl
      (fun j v hj => by
        rw [Addr.add_lit]
        rcases j with _ | _ | j
        · simp [flC] at hj; subst hj; simpa using hvc.1
        · simp [flC] at hj; subst hj; simpa using hvc.2
        · simp [flC] at hj)
      (fun j hj => hs1 _ (by have : (flC f).length = 2 := rfl; omega)) (fun j hj => by rw [← hW1, World.frozen?_setCells]; exact hfz _) (fun v hv => by simp [flC] at hv; rcases hv with rfl | rfl <;> rfl)
  have HFIN : Hid (Sl (W1.setCells g (i * 2) (flC f)) (W1.setCells g (i * 2) (flC f)).heap.size 2 (some ⟨g, 0, none⟩) (n + 1) (flat flC (insL l i f))) := by
    refine ⟨by rw [flat_len flC_len, ← hln]; unfold insL; simp; omega, fun _ => ⟨g, 0, rfl, ?_, fun j u hu => ?_⟩⟩
    · rw [size_setCells, ← hW1, size_setCells]; exact (Array.getElem?_eq_some_iff.1 hh).1
    · rw [HINS.out] at hu
      rw [Nat.zero_add]
      have hfl : (flC f).length = 2 := rfl
      have htl : (xs.take (i * 2)).length = i * 2 := by rw [List.length_take]; omega
      by_cases ha : j < i * 2
      · rw [List.getElem?_append_left (by omega), List.getElem?_take, if_pos ha] at hu
        rw [World.cell?_setCells_out g _ _ _ _ (fun _ _ => by show j < _ ∨ _; omega), ← hW1, World.cell?_setCells_out g _ _ _ _ (fun _ _ => by show j < _ ∨ _; omega)]
        exact hcell j u hu
      · rw [List.getElem?_append_right (by omega), htl] at hu
        by_cases hb' : j < i * 2 + 2
        · rw [List.getElem?_append_left (by omega)] at hu
          have := World.cell?_setCells_in g (flC f) (i * 2) W1 (fun q hq => hs1 _ (by omega)) (j - i * 2) (by omega)
          rw [show i * 2 + (j - i * 2) = j by omega] at this
          rw [this, ← hu]; exact (List.getElem?_eq_getElem _).symm
        · rw [List.getElem?_append_right (by omega), hfl] at hu
          rw [World.cell?_setCells_out g _ _ _ _ (fun _ _ => by show j < _ ∨ _ ≤ j; omega), ← hW1]
          have hlt := (List.getElem?_eq_some_iff.1 hu).1
          have := World.cell?_setCells_in g (xs.drop (i * 2)) ((i + 1) * 2) w.drew (fun q hq => hsp _ (by omega)) (j - i * 2 - 2) hlt
          rw [show (i + 1) * 2 + (j - i * 2 - 2) = j by omega] at this
          rw [this, ← hu]; exact (List.getElem?_eq_getElem _).symm
  have HBE : Hid (Below base w (W1.setCells g (i * 2) (flC f))) := by
    rw [← hW1]
    exact below_setCells hb _ _ _ (below_setCells hb _ _ _ (Below.refl _ w).drew)
  clear hxs hh h4 hvb hcell hsp hfz hs1 hvc hW1
  go_enter Tryz.func50, Tryz.ntmps50
  go_wp2_with (simp only [hov])
  go_region_law (refine step_copy_run rfl _ _ 24 24 rfl _ _ (by simp [Act.eval, Act.put]) (by simp [Act.eval, Act.put]) (hcp1 _) ?_)
  go_wp2_with (at_builtin; refine wpList_copy_run _ rfl _ _ 24 24 rfl _ _ rfl rfl (hcp2 _) ?_)
  go_ret
  exact ⟨_, c, by rw [hln]; rfl, by rw [hln]; exact HFIN.out, HBE.out, by omega, h2⟩
set_option maxRecDepth 100000 in
set_option maxHeartbeats 4000000 in
theorem insF_grow (base g n i vb : Nat) (l : List Fl) (f : Fl) (w : World) (h0 : Sl w w.heap.size 2 (some ⟨g, 0, none⟩) n (flat flC l)) (hln : l.length = n) (hi : i < n) (hn : n ≤ 1000000) (hvb : Bk w vb 68 #[.string f.1, .string f.2]) (hbw : base ≤ w.heap.size) :
    Calls Tryz.prog 50 #[.slice (some ⟨g, 0, none⟩) n n, .int .i64 i, .slice (some ⟨vb, 0, none⟩) 1 1] w (InsFE base l i f w) := by
  obtain ⟨hxl, hform⟩ := h0
  obtain ⟨b', off', hv, hgw, hcell0⟩ := hform (by omega)
  injection hv with hv
  injection hv with hv1 hv2 hv3
  subst hv1; subst hv2
  obtain ⟨xs, hxs⟩ : ∃ xs, flat flC l = xs := ⟨_, rfl⟩
  have HONE : Hid (∀ u ∈ xs, u.oneCell' = true) := by rw [← hxs]; exact flC_one' l
  have HINS := Lib.hid (insL_cells l i f)
  rw [hxs] at hxl hcell0 HINS
  have hcell : ∀ j v, xs[j]? = some v → w.cell? ⟨g, j, none⟩ = some v := fun j v hj => by have := hcell0 j v hj; rwa [Nat.zero_add] at this
  have hdl : (xs.drop (i * 2)).length = (n - i) * 2 := by rw [List.length_drop]; omega
  have htl : (xs.take (i * 2)).length = i * 2 := by rw [List.length_take]; omega
  have hfl : (flC f).length = 2 := rfl
  have hvw : vb < w.heap.size := hvb.lt
  obtain ⟨i0, hii, hz0, hz1, hz2'⟩ := info_parts infoFlI
  have hold : (Builtin.firstCells i0.size i (.slice (some ⟨g, 0, none⟩) i n)).run Tryz.prog w.drew = .ok (xs.take (i * 2)).toArray w.drew := by
    rw [hz1]
    exact run_firstCells_some w.drew 2 i ⟨g, 0, none⟩ i n (xs.take (i * 2)) htl (fun j v hj => by
      rw [Addr.add_lit, Nat.zero_add]
      rw [List.getElem?_take] at hj
      split at hj
      · exact hcell j v hj
      · cases hj)
  have hik : i + (n + 1 - i) = n + 1 := by omega
  have hkk : (n : Int) + 1 - (i : Int) = ((n + 1 - i : Nat) : Int) := by omega
  have hrz : ∀ ty, (Builtin.append_ #[24, 3] ty #[.slice (some ⟨g, 0, none⟩) i n, .int .i64 ((n : Int) + 1 - (i : Int))]).run Tryz.prog w = .ok (.slice (some ⟨w.heap.size, 0, none⟩) (n + 1) (grownCap w (n + 1) n 68)) (w.drew.alloc (.cells ((xs.take (i * 2)).toArray ++ Builtin.zeroCells (Value.agg #[.string ⟨#[]⟩, .string ⟨#[]⟩]).cells (n + 1 - i) ++ Builtin.zeroCells (Value.agg #[.string ⟨#[]⟩, .string ⟨#[]⟩]).cells (grownCap w (n + 1) n 68 - (n + 1))) 68)) := fun ty => by
    have h := Lib.run_append_grow_zeros w 24 3 ty 68 i0 _ .i64 .i64 Tryz.underlying24 Tryz.underlying3 hii hz0 (some ⟨g, 0, none⟩) i n (xs.take (i * 2)) hold (n + 1 - i) (by omega) (by rw [hz1]; omega) (by omega) (by omega) (by rw [hz2']; omega) (by rw [hz2', hik]; exact growslice_fits (by omega) (by omega))
    rw [hik] at h
    rw [hkk]
    exact h
  have hGn := grownCap_ge w (n + 1) n 68
  have hGm := grownCap_le_maxLen w (n + 1) n 68 (by unfold maxLen; omega)
  obtain ⟨G, hG⟩ : ∃ G, grownCap w (n + 1) n 68 = G := ⟨_, rfl⟩
  rw [hG] at hrz hGn hGm
  obtain ⟨ROW, hROW⟩ : ∃ ROW : Array Value, (xs.take (i * 2)).toArray ++ Builtin.zeroCells (Value.agg #[.string ⟨#[]⟩, .string ⟨#[]⟩]).cells (n + 1 - i) ++ Builtin.zeroCells (Value.agg #[.string ⟨#[]⟩, .string ⟨#[]⟩]).cells (G - (n + 1)) = ROW := ⟨_, rfl⟩
  rw [hROW] at hrz
  have hRl : (n + 1) * 2 ≤ ROW.size := by
    rw [← hROW, Array.size_append, Array.size_append, size_zeroCells, size_zeroCells]
    show (n + 1) * 2 ≤ (xs.take (i * 2)).toArray.size + (n + 1 - i) * 2 + (G - (n + 1)) * 2
    rw [List.size_toArray, htl]; omega
  have hRt : ∀ j, j < i * 2 → ROW[j]? = xs[j]? := fun j hj => by
    rw [← hROW, Array.append_assoc, Array.getElem?_append_left (by rw [List.size_toArray, htl]; exact hj), List.getElem?_toArray, List.getElem?_take, if_pos hj]
  obtain ⟨W1, hW1⟩ : ∃ W1, w.drew.alloc (.cells ROW 68) = W1 := ⟨_, rfl⟩
  rw [hW1] at hrz
  have hb1 : Bk W1 w.heap.size 68 ROW := by rw [← hW1]; exact Bk.new w.drew _ _
  have hB1 : Below w.heap.size w W1 := by rw [← hW1]; exact (Below.refl _ w).drew.alloc (Nat.le_refl _) _
  have hs1 : ∀ k, k < (n + 1) * 2 → (W1.cell? ⟨w.heap.size, k, none⟩).isSome = true := fun k hk => by
    rw [hb1.cell, Array.getElem?_eq_getElem (by omega)]; rfl
  obtain ⟨W2, hW2⟩ : ∃ W2, W1.setCells w.heap.size (i * 2) (flC f) = W2 := ⟨_, rfl⟩
  have hcp1 : ∀ ty, (Builtin.copy_ #[24, 24] ty #[.slice (some ⟨w.heap.size, i * 2, none⟩) (n + 1 - i) (G - i), .slice (some ⟨vb, 0, none⟩) 1 1]).run Tryz.prog W1 = .ok (goInt 1) W2 := fun ty => by
    rw [← hW2]
    exact run_copy_k W1 24 24 ty 68 2 w.heap.size (i * 2) (n + 1 - i) (G - i) ⟨vb, 0, none⟩ 1 1 1 (flC f) Tryz.underlying24 sizeFl (by simp only [Nat.min_def]; split <;> omega) rfl
      (fun j v hj => by
        rw [Addr.add_lit]
        have hvk := hvb.below hB1 hvw
        rcases j with _ | _ | j
        · simp [flC] at hj; subst hj; simpa using hvk.cell 0
        · simp [flC] at hj; subst hj; simpa using hvk.cell 1
        · simp [flC] at hj)
      (fun j hj => hs1 _ (by rw [hfl] at hj; omega)) (fun j hj => hb1.free _) (fun v hv => by simp [flC] at hv; rcases hv with rfl | rfl <;> rfl)
  have hs2 : ∀ k, k < (n + 1) * 2 → (W2.cell? ⟨w.heap.size, k, none⟩).isSome = true := fun k hk => by
    rw [← hW2]
    exact some_setCells w.heap.size (flC f) (i * 2) W1 (fun j hj => hs1 _ (by rw [hfl] at hj; omega)) k (hs1 k hk)
  have hB2 : Below w.heap.size w W2 := by rw [← hW2]; exact below_setCells (Nat.le_refl _) _ _ _ hB1
  have hcp2 : ∀ ty, (Builtin.copy_ #[24, 24] ty #[.slice (some ⟨w.heap.size, (i + 1) * 2, none⟩) (n + 1 - (i + 1)) (G - (i + 1)), .slice (some ⟨g, i * 2, none⟩) (n - i) (n - i)]).run Tryz.prog W2.drew = .ok (goInt ((n - i : Nat) : Int)) (W2.drew.setCells w.heap.size ((i + 1) * 2) (xs.drop (i * 2))) := fun ty =>
    run_copy_k W2.drew 24 24 ty 68 2 w.heap.size ((i + 1) * 2) (n + 1 - (i + 1)) (G - (i + 1)) ⟨g, i * 2, none⟩ (n - i) (n - i) (n - i) (xs.drop (i * 2)) Tryz.underlying24 sizeFl (by simp only [Nat.min_def]; split <;> omega) hdl
      (fun j v hj => by
        rw [Addr.add_lit]
        exact (hB2.cell (p := ⟨g, i * 2 + j, none⟩) hgw).trans (hcell _ v (by rwa [List.getElem?_drop] at hj)))
      (fun j hj => hs2 _ (by rw [hdl] at hj; omega)) (fun j hj => by show W2.frozen? _ = false; rw [← hW2, World.frozen?_setCells]; exact hb1.free _) (fun v hv => HONE.out v (List.mem_of_mem_drop hv))
  have HFIN : Hid (Sl (W2.drew.setCells w.heap.size ((i + 1) * 2) (xs.drop (i * 2))) (W2.drew.setCells w.heap.size ((i + 1) * 2) (xs.drop (i * 2))).heap.size 2 (some ⟨w.heap.size, 0, none⟩) (n + 1) (flat flC (insL l i f))) := by
    refine ⟨by rw [flat_len flC_len, ← hln]; unfold insL; simp; omega, fun _ => ⟨w.heap.size, 0, rfl, ?_, fun j u hu => ?_⟩⟩
    · rw [size_setCells]
      show _ < W2.heap.size
      rw [← hW2, size_setCells]; exact hb1.lt
    · rw [HINS.out] at hu
      rw [Nat.zero_add]
      by_cases ha : j < i * 2
      · rw [List.getElem?_append_left (by omega), List.getElem?_take, if_pos ha] at hu
        rw [World.cell?_setCells_out w.heap.size _ _ _ _ (fun _ _ => by show j < _ ∨ _; omega)]
        show W2.cell? _ = _
        rw [← hW2, World.cell?_setCells_out w.heap.size _ _ _ _ (fun _ _ => by show j < _ ∨ _; omega), hb1.cell, hRt j ha]
        exact hu
      · rw [List.getElem?_append_right (by omega), htl] at hu
        by_cases hb' : j < i * 2 + 2
        · rw [List.getElem?_append_left (by omega)] at hu
          rw [World.cell?_setCells_out w.heap.size _ _ _ _ (fun _ _ => by show j < _ ∨ _; omega)]
          show W2.cell? _ = _
          rw [← hW2]
          have := World.cell?_setCells_in w.heap.size (flC f) (i * 2) W1 (fun q hq => hs1 _ (by rw [hfl] at hq; omega)) (j - i * 2) (by omega)
          rw [show i * 2 + (j - i * 2) = j by omega] at this
          rw [this, ← hu]; exact (List.getElem?_eq_getElem _).symm
        · rw [List.getElem?_append_right (by omega), hfl] at hu
          have hlt := (List.getElem?_eq_some_iff.1 hu).1
          have := World.cell?_setCells_in w.heap.size (xs.drop (i * 2)) ((i + 1) * 2) W2.drew (fun q hq => hs2 _ (by rw [hdl] at hq; omega)) (j - i * 2 - 2) hlt
          rw [show (i + 1) * 2 + (j - i * 2 - 2) = j by omega] at this
          rw [this, ← hu]; exact (List.getElem?_eq_getElem _).symm
  have HBE : Hid (Below base w (W2.drew.setCells w.heap.size ((i + 1) * 2) (xs.drop (i * 2)))) := below_setCells hbw _ _ _ (hB2.drew.mono hbw)
  have hz2 : ¬ ((i : Int) = (n : Int)) := by omega
  have hz3 : (n : Int) < (n : Int) + 1 := by omega
  have hw1 : IntKind.i64.wrap ((i : Int) + 1) = (i : Int) + 1 := by rw [IntKind.wrap_i64]; omega
  have hb1' : (0 : Int) ≤ (i : Int) + 1 := by omega
  have hin : i ≤ n := by omega
  have htn : ((i : Int) + 1).toNat = i + 1 := by omega
  have hb3 : (i : Int) ≤ (n : Int) := by omega
  have hGi : ¬ (G = i) := by omega
  have hGim : ¬ (G = i + 1) := by omega
  have hci : ¬ (n = i) := by omega
  have hG63 : G ≤ 9223372036854775807 := by unfold maxLen at hGm; exact hGm
  clear hxs hvb hcell hcell0 hold hik hkk hii hz0 hz1 hz2' hG hROW hRl hRt hW1 hb1 hB1 hs1 hs2 hW2 hB2
  go_enter Tryz.func50, Tryz.ntmps50
  go_wp2_with (first
    | (at_builtin; refine Lib.wpList_append_run _ rfl _ _ _ _ rfl _ _ rfl rfl _ _ (hrz _) ?_)
    | (at_builtin; refine wpList_copy_run _ rfl _ _ 24 24 rfl _ _ rfl rfl (hcp1 _) ?_))
  go_region_law (refine step_copy_run rfl _ _ 24 24 rfl _ _ (by simp [Act.eval, Act.put]) (by simp [Act.eval, Act.put]) (hcp2 _) ?_)
  go_wp2_with fail
  go_ret
  exact ⟨_, G, by rw [hln]; rfl, by rw [hln]; exact HFIN.out, HBE.out, by omega, hGm⟩
set_option maxRecDepth 100000 in
set_option maxHeartbeats 4000000 in
theorem insF_end (base n c vb : Nat) (A : Option Addr) (l : List Fl) (f : Fl) (w : World) (ho : w.ownsRow base 68 2 (.slice A n c) n (flat flC l)) (hln : l.length = n) (hn : n ≤ 1000000) (hvb : Bk w vb 68 #[.string f.1, .string f.2]) (hbw : base ≤ w.heap.size) :
    Calls Tryz.prog 50 #[.slice A n c, .int .i64 n, .slice (some ⟨vb, 0, none⟩) 1 1] w (InsFE base l n f w) := by
  have HO := Lib.hid ho
  have hnc := (ownsRow_form ho)
  obtain ⟨A', c', e1, hc1, hc2⟩ := hnc
  simp only [Value.slice.injEq, true_and] at e1
  obtain ⟨rfl, rfl⟩ := e1
  obtain ⟨i0, hi, hz0, hz1, hz2⟩ := info_parts infoFlI
  have Hi := Lib.hid hi; have Hz0 := Lib.hid hz0; have Hz1 := Lib.hid hz1; have Hz2 := Lib.hid hz2
  have HV : Hid (Sl w w.heap.size 2 (some ⟨vb, 0, none⟩) 1 (flC f)) := Sl.of_bk (n := 1) (size := 2) hvb rfl
  have HL : Hid (insL l n f = l ++ [f]) := by show _ = _; unfold insL; rw [List.take_of_length_le (by omega), List.drop_of_length_le (by omega)]
  have hc63 : c ≤ 9223372036854775807 := by unfold maxLen at hc2; exact hc2
  have HGE : Hid (∀ k, (Value.slice A n c).ownBlock = some k → base ≤ k) := fun k hk => ownBlock_ge ho k hk
  have HC2 := Lib.hid hc2
  clear ho hvb hi hz0 hz1 hz2
  have key : ∀ (A4 : Option Addr) (c4 : Nat) (w4 : World), w4.ownsRow base 68 2 (.slice A4 (n + 1) c4) (n + 1) (flat flC l ++ flC f) → w.grownBy w4 (Value.slice A n c).ownBlock → n + 1 ≤ c4 → c4 ≤ maxLen → InsFE base l n f w (.returned (.slice A4 (n + 1) c4)) w4 := fun A4 c4 w4 ho4 hg4 hc41 hc42 => by
    refine ⟨A4, c4, by rw [hln], ?_, (Below.refl base w).grown hg4 hbw (fun k hk => HGE.out k hk), by omega, hc42⟩
    rw [hln, HL.out]
    have e : flat flC (l ++ [f]) = flat flC l ++ flC f := by rw [flat_append]; simp [flat]
    rw [e]
    exact Sl.of_own ho4
  have HKEY := Lib.hid key
  clear key
  go_enter Tryz.func50, Tryz.ntmps50
  by_cases hcn : c = n
  case' pos => subst hcn
  all_goals
    go_wp2_with (at_builtin; refine halt_ ?_)
    refine unhalt ?_
    refine wpList_append_sl (base := base) (size := 2) _ rfl (.tmp 23) (.tmp 24) 24 rfl 68 i0 _ 32 Tryz.underlying24 Hi.out Hz0.out Hz1.out Hz2.out rfl (by decide) _ _ (flat flC l) rfl HO.out w.heap.size _ 1 1 (flC f) rfl HV.out (by simp [flC, Value.oneCell']) (by unfold maxLen; omega) (by omega) hbw ?_
    intro A4 c4 w4 ho4 hg4 hc41 hc42
    have HF := Lib.hid (HKEY.out A4 c4 w4 ho4 hg4 hc41 hc42)
    clear ho4 hg4
    go_wp2_with fail
    go_ret
    exact HF.out
end Go.Proofs.YtmdhlkkekidknaaGreatDoor

namespace Go.Proofs.YtmdhlkkekidknaaGreatDoor
open Go.RowKit Go.Shelf

theorem slashL_of {l : List UInt8} {i : Nat} (h1 : l[i]? = some 47) (h2 : ∀ j, j < i → l[j]? ≠ some 47) : slashL l = i :=
  slashL_at h2 (Nat.le_of_lt (List.getElem?_eq_some_iff.1 h1).1) (.inr h1)
theorem slashL_no {l : List UInt8} (h : ∀ c ∈ l, c ≠ 47) : slashL l = l.length :=
  slashL_at (fun _ _ e => h 47 (List.mem_of_getElem? e) rfl) (Nat.le_refl _) (.inl rfl)
set_option maxRecDepth 100000 in
set_option maxHeartbeats 1000000 in
theorem cutLite_any (s : ByteArray) (w : World) (hs : s.size ≤ maxLen) : Calls Tryz.prog 127 #[.string s, .string ⟨#[47]⟩] w (CutEnd s w) := by
  have hs' : s.size ≤ 9223372036854775807 := by unfold maxLen at hs; exact hs
  have HX := Lib.hid (Tryz.stringslite_Index_one s 47 w)
  by_cases hi : Lib.indexByte s.data.toList 47 = -1
  · have HN : Hid (CutR s s ⟨#[]⟩ false) := by
      have : slashL (bl s) = s.size := slashL_no (fun c hc e => by
        obtain ⟨j, hj, e'⟩ := List.getElem_of_mem hc
        exact Lib.indexByte_none hi j (by rw [← e, ← e']; exact List.getElem?_eq_getElem _))
      exact .inr ⟨this, rfl, rfl, rfl⟩
    rw [hi] at HX
    clear hi
    go_enter Tryz.func127, Tryz.ntmps127
    go_wp2_with fail
    refine HX.out.mono ?_
    rintro e w1 ⟨rfl, rfl⟩
    go_wp2_with fail
    go_ret3
    exact ⟨_, _, _, rfl, HN.out, Below.refl _ _⟩
  · obtain ⟨i, hi'⟩ : ∃ i : Nat, Lib.indexByte s.data.toList 47 = i := ⟨(Lib.indexByte s.data.toList 47).toNat, by have := Lib.indexByte_ge s.data.toList 47; omega⟩
    obtain ⟨h1, h2⟩ := Lib.indexByte_some hi'
    have hil : i < s.size := by rw [size_len]; exact (List.getElem?_eq_some_iff.1 h1).1
    have HN : Hid (CutR s (s.extract 0 i) (s.extract (i + 1) s.size) true) := by
      have e : slashL (bl s) = i := slashL_of h1 h2
      exact .inl ⟨by rw [e]; exact hil, by rw [e], by rw [e], rfl⟩
    rw [hi'] at HX
    clear hi hi' h1 h2
    go_enter Tryz.func127, Tryz.ntmps127
    go_wp2_with fail
    refine HX.out.mono ?_
    rintro e w1 ⟨rfl, rfl⟩
    have hi0 : (0 : Int) ≤ (i : Int) := by omega
    go_wp2_with fail
    go_quiet (fail)
    go_wp2_with fail
    go_ret3
    exact ⟨_, _, _, rfl, HN.out, below_drewN (Below.refl _ _) _⟩
set_option maxHeartbeats 1000000 in
theorem cut_any (s : ByteArray) (w : World) (hs : s.size ≤ maxLen) : Calls Tryz.prog 87 #[.string s, .string ⟨#[47]⟩] w (CutEnd s w) := by
  have HX := Lib.hid (cutLite_any s w hs)
  go_enter Tryz.func87, Tryz.ntmps87
  go_wp2_with fail
  refine HX.out.mono ?_
  rintro e w1 ⟨a, b, m, rfl, hc, hb⟩
  have HC := Lib.hid hc; have HB := Lib.hid hb; clear hc hb
  go_wp2_with fail
  go_ret3
  exact ⟨_, _, _, rfl, HC.out, HB.out⟩
end Go.Proofs.YtmdhlkkekidknaaGreatDoor

namespace Go.Proofs.YtmdhlkkekidknaaGreatDoor
open Go.RowKit

theorem slashL_dec : ∀ l : List UInt8, slashL l < l.length → l = l.take (slashL l) ++ 47 :: l.drop (slashL l + 1)
  | [], h => by simp at h
  | c :: r, h => by
    by_cases hc : c = 47
    · subst hc; simp [slashL]
    · simp only [slashL, if_neg hc] at h ⊢
      have := slashL_dec r (by simpa using h)
      simpa using this
theorem slashL_pre : ∀ l : List UInt8, ∀ c ∈ l.take (slashL l), c ≠ 47
  | [], c, h => by simp at h
  | d :: r, c, h => by
    by_cases hd : d = 47
    · subst hd; simp [slashL] at h
    · simp only [slashL, if_neg hd, List.take_succ_cons, List.mem_cons] at h
      rcases h with rfl | h
      · exact hd
      · exact slashL_pre r c h
theorem bl_ext (s : ByteArray) (a b : Nat) : bl (s.extract a b) = ((bl s).take b).drop a := by
  unfold bl; rw [extract_list, List.drop_take]
theorem bl_size (s : ByteArray) : (bl s).length = s.size := rfl
def cutP (s : ByteArray) : ByteArray × ByteArray × Bool := if slashL (bl s) < s.size then (s.extract 0 (slashL (bl s)), s.extract (slashL (bl s) + 1) s.size, true) else (s, ⟨#[]⟩, false)
def fsN (s : ByteArray) : ByteArray := (cutP s).1
def rsN (s : ByteArray) : ByteArray := (cutP s).2.1
def deN (s : ByteArray) : Bool := (cutP s).2.2
theorem cutR_eq {s a b : ByteArray} {m : Bool} (h : CutR s a b m) : a = fsN s ∧ b = rsN s ∧ m = deN s := by
  unfold fsN rsN deN cutP
  rcases h with ⟨h, rfl, rfl, rfl⟩ | ⟨h, rfl, rfl, rfl⟩
  · rw [if_pos h]; exact ⟨rfl, rfl, rfl⟩
  · rw [if_neg (by omega)]; exact ⟨rfl, rfl, rfl⟩
theorem cut_deep {s : ByteArray} (h : deN s = true) : bl s = bl (fsN s) ++ 47 :: bl (rsN s) := by
  unfold deN fsN rsN cutP at *
  split at h
  · rename_i hl
    rw [if_pos hl]
    simp only
    rw [bl_ext, bl_ext, List.take_of_length_le (i := s.size) (by rw [bl_size]; exact Nat.le_refl _), List.drop_zero]
    exact slashL_dec _ hl
  · cases h
theorem cut_flat {s : ByteArray} (h : deN s = false) : fsN s = s := by
  unfold deN fsN cutP at *
  split at h
  · cases h
  · rename_i hl; rw [if_neg hl]
theorem fsN_nosl (s : ByteArray) : NoSl (fsN s) := by
  unfold fsN cutP
  split
  · rename_i hl
    intro c hc
    simp only at hc
    rw [bl_ext, List.drop_zero] at hc
    exact slashL_pre _ c hc
  · rename_i hl
    intro c hc
    simp only at hc
    have : (bl s).take (slashL (bl s)) = bl s := List.take_of_length_le (by rw [bl_size]; omega)
    rw [← this] at hc
    exact slashL_pre _ c hc
theorem cut_of {s a b : ByteArray} (h : bl s = bl a ++ 47 :: bl b) (hn : NoSl a) : fsN s = a ∧ rsN s = b ∧ deN s = true := by
  have hd : deN s = true := by
    cases hd : deN s with
    | true => rfl
    | false =>
      have := cut_flat hd
      have hs := fsN_nosl s
      rw [this] at hs
      exact absurd rfl (hs 47 (by rw [h]; simp))
  have h2 := cut_deep hd
  rw [h] at h2
  obtain ⟨e1, e2⟩ := name_eq hn (fsN_nosl s) (.inr ⟨_, rfl⟩) (.inr ⟨_, rfl⟩) h2
  exact ⟨e1.symm, (bl_inj (List.cons.inj e2).2).symm, hd⟩
theorem cut_no {s : ByteArray} (hn : NoSl s) : fsN s = s ∧ deN s = false := by
  have hd : deN s = false := by
    cases hd : deN s with
    | false => rfl
    | true =>
      have := cut_deep hd
      exact absurd rfl (hn 47 (by rw [this]; simp))
  exact ⟨cut_flat hd, hd⟩
theorem pathB_iff (s : ByteArray) : pathB s = true ↔ s.size ≤ 100 ∧ ∀ l ∈ splitS (bl s), nameL l = true := by
  unfold pathB; rw [Bool.and_eq_true, decide_eq_true_eq, List.all_eq_true]; rfl
theorem splitS_cut (s : ByteArray) : splitS (bl s) = if deN s = true then bl (fsN s) :: splitS (bl (rsN s)) else [bl s] := by
  rw [splitS_slash]
  unfold deN fsN rsN cutP
  by_cases h : slashL (bl s) < s.size
  · rw [if_pos (by rw [bl_size]; exact h), if_pos h]
    simp only
    rw [if_pos trivial, bl_ext, bl_ext, List.take_of_length_le (i := s.size) (by rw [bl_size]; exact Nat.le_refl _), List.drop_zero]
  · rw [if_neg (by rw [bl_size]; exact h), if_neg h]
    simp
theorem path_name {s : ByteArray} (h : pathB s = true) : nameB (fsN s) = true := by
  have h2 := ((pathB_iff s).1 h).2
  rw [splitS_cut] at h2
  cases hd : deN s with
  | true => rw [hd, if_pos rfl] at h2; exact h2 _ (by simp)
  | false => rw [hd] at h2; rw [cut_flat hd]; exact h2 _ (by simp)
theorem path_rest {s : ByteArray} (h : pathB s = true) (hd : deN s = true) : pathB (rsN s) = true ∧ (rsN s).size < s.size := by
  have h1 := (pathB_iff s).1 h
  have h2 := h1.2
  rw [splitS_cut, hd, if_pos rfl] at h2
  have hl := congrArg List.length (cut_deep hd)
  simp only [List.length_append, List.length_cons] at hl
  have hz : (rsN s).size < s.size := by rw [← bl_size, ← bl_size]; omega
  exact ⟨(pathB_iff _).2 ⟨by omega, fun l hl => h2 l (by simp [hl])⟩, hz⟩
theorem path_len {s : ByteArray} (h : pathB s = true) : s.size ≤ 100 := ((pathB_iff s).1 h).1
theorem belB_iff (d p : ByteArray) : belB d p = true ↔ ∃ r, bl p = bl d ++ 47 :: r := by
  unfold belB
  simp only [Bool.and_eq_true, decide_eq_true_eq]
  constructor
  · rintro ⟨h1, h2, h3⟩
    refine ⟨(bl p).drop (d.size + 1), ?_⟩
    have hk := List.getElem?_eq_some_iff.1 h3
    have e : bl d = (bl p).take d.size := by rw [← h2, bl_ext, List.drop_zero, h2]
    rw [e, ← hk.2, ← List.drop_eq_getElem_cons hk.1, List.take_append_drop]
  · rintro ⟨r, h⟩
    have hl := congrArg List.length h
    simp only [List.length_append, List.length_cons, bl_size] at hl
    refine ⟨by omega, ?_, ?_⟩
    · apply bl_inj
      rw [bl_ext, h, List.drop_zero, List.take_append_of_le_length (by rw [bl_size]; exact Nat.le_refl _), List.take_of_length_le (by rw [bl_size]; exact Nat.le_refl _)]
    · rw [h, List.getElem?_append_right (by rw [bl_size]; exact Nat.le_refl _), bl_size]; simp

structure OkL (l : List Fl) : Prop where
  path : ∀ f ∈ l, pathB f.1 = true
  data : ∀ f ∈ l, f.2.size ≤ 60000
  few : l.length ≤ 200
  nod : (l.map Prod.fst).Nodup
  nob : ∀ f ∈ l, ∀ g ∈ l, belB f.1 g.1 = false
def inD (l : List Fl) (n : ByteArray) : List Fl := (l.filter (fun f => deN f.1 && decide (fsN f.1 = n))).map (fun f => (rsN f.1, f.2))
theorem mem_inD {l : List Fl} {n : ByteArray} {f : Fl} : f ∈ inD l n ↔ ∃ g ∈ l, deN g.1 = true ∧ fsN g.1 = n ∧ f = (rsN g.1, g.2) := by
  unfold inD
  rw [List.mem_map]
  constructor
  · rintro ⟨g, hg, rfl⟩
    rw [List.mem_filter, Bool.and_eq_true, decide_eq_true_eq] at hg
    exact ⟨g, hg.1, hg.2.1, hg.2.2, rfl⟩
  · rintro ⟨g, hg, h1, h2, rfl⟩
    exact ⟨g, by rw [List.mem_filter, Bool.and_eq_true, decide_eq_true_eq]; exact ⟨hg, h1, h2⟩, rfl⟩
theorem cut_eq {s t : ByteArray} (hs : deN s = true) (ht : deN t = true) (h1 : fsN s = fsN t) (h2 : rsN s = rsN t) : s = t := by
  apply bl_inj
  rw [cut_deep hs, cut_deep ht, h1, h2]
theorem inD_len (l : List Fl) (n : ByteArray) : (inD l n).length ≤ l.length := by
  unfold inD; rw [List.length_map]; exact List.length_filter_le _ _
theorem OkL.sub {l : List Fl} (h : OkL l) (n : ByteArray) : OkL (inD l n) where
  path f hf := by
    obtain ⟨g, hg, h1, _, rfl⟩ := mem_inD.1 hf
    exact (path_rest (h.path g hg) h1).1
  data f hf := by
    obtain ⟨g, hg, _, _, rfl⟩ := mem_inD.1 hf
    exact h.data g hg
  few := Nat.le_trans (inD_len l n) h.few
  nod := by
    unfold inD
    rw [List.map_map]
    have h1 : (l.filter (fun f => deN f.1 && decide (fsN f.1 = n))).Pairwise (fun a b => a.1 ≠ b.1) := by
      have := h.nod
      unfold List.Nodup at this
      rw [List.pairwise_map] at this
      exact this.filter _
    unfold List.Nodup
    rw [List.pairwise_map]
    refine h1.imp_of_mem ?_
    intro a b ha hb hab he
    rw [List.mem_filter, Bool.and_eq_true, decide_eq_true_eq] at ha hb
    exact hab (cut_eq ha.2.1 hb.2.1 (ha.2.2.trans hb.2.2.symm) he)
  nob f hf g hg := by
    obtain ⟨f', hf', h1, h2, rfl⟩ := mem_inD.1 hf
    obtain ⟨g', hg', h3, h4, rfl⟩ := mem_inD.1 hg
    rw [Bool.eq_false_iff]
    intro hb
    obtain ⟨r, hr⟩ := (belB_iff _ _).1 hb
    have := h.nob f' hf' g' hg'
    rw [Bool.eq_false_iff] at this
    refine this ((belB_iff _ _).2 ⟨r, ?_⟩)
    rw [cut_deep h1, cut_deep h3, h2, h4, hr]; simp
def nmsP (l : List Fl) : List ByteArray := l.foldl (fun a f => insS a (fsN f.1)) []
theorem nms_gen (l : List Fl) : ∀ a : List ByteArray, Asc a → Asc (l.foldl (fun a f => insS a (fsN f.1)) a) ∧ ∀ x, x ∈ l.foldl (fun a f => insS a (fsN f.1)) a ↔ x ∈ a ∨ ∃ f ∈ l, x = fsN f.1 := by
  induction l with
  | nil => intro a h; exact ⟨h, fun x => by simp⟩
  | cons f l ih =>
    intro a h
    rw [List.foldl_cons]
    obtain ⟨h1, h2⟩ := ih (insS a (fsN f.1)) (asc_insS _ h)
    refine ⟨h1, fun x => ?_⟩
    rw [h2, mem_insS]
    simp only [List.mem_cons]
    constructor
    · rintro ((h | h) | ⟨g, hg, h⟩)
      · exact .inl h
      · exact .inr ⟨f, .inl rfl, h⟩
      · exact .inr ⟨g, .inr hg, h⟩
    · rintro (h | ⟨g, rfl | hg, h⟩)
      · exact .inl (.inl h)
      · exact .inl (.inr h)
      · exact .inr ⟨g, hg, h⟩
theorem nms_asc (l : List Fl) : Asc (nmsP l) := (nms_gen l [] List.Pairwise.nil).1
theorem nms_mem {l : List Fl} {x : ByteArray} : x ∈ nmsP l ↔ ∃ f ∈ l, x = fsN f.1 := by
  unfold nmsP; rw [(nms_gen l [] List.Pairwise.nil).2 x]; simp
theorem insS_len (a : List ByteArray) (s : ByteArray) : (insS a s).length ≤ a.length + 1 := by
  by_cases h : a[posS a s]? = some s
  · rw [insS_has h]; omega
  · rw [insS_new h]; simp; omega
theorem nms_len (l : List Fl) : (nmsP l).length ≤ l.length := by
  have : ∀ (l : List Fl) (a : List ByteArray), (l.foldl (fun a f => insS a (fsN f.1)) a).length ≤ a.length + l.length := by
    intro l
    induction l with
    | nil => intro a; simp
    | cons f l ih => intro a; rw [List.foldl_cons]; have := ih (insS a (fsN f.1)); have := insS_len a (fsN f.1); simp only [List.length_cons]; omega
  have := this l []
  simpa [nmsP] using this
def lookF9 (l : List Fl) (n : ByteArray) : Option ByteArray := (l.find? (fun f => decide (f.1 = n))).map Prod.snd
theorem look9_some {l : List Fl} (hn : (l.map Prod.fst).Nodup) {n s : ByteArray} : lookF9 l n = some s ↔ (n, s) ∈ l := by
  unfold lookF9
  induction l with
  | nil => simp
  | cons f l ih =>
    rw [List.map_cons, List.nodup_cons] at hn
    by_cases e : f.1 = n
    · rw [List.find?_cons_of_pos (by simpa using e)]
      simp only [Option.map_some, Option.some.injEq, List.mem_cons]
      constructor
      · rintro rfl; left; rw [← e]
      · rintro (h | h)
        · rw [← h]
        · exact absurd (List.mem_map_of_mem (f := Prod.fst) h) (by rw [← e] ; exact hn.1)
    · rw [List.find?_cons_of_neg (by simpa using e), ih hn.2, List.mem_cons]
      exact ⟨.inr, fun h => h.resolve_left (fun h => e (by rw [← h]))⟩
theorem look9_none {l : List Fl} {n : ByteArray} : lookF9 l n = none ↔ ∀ f ∈ l, f.1 ≠ n := by
  unfold lookF9
  rw [Option.map_eq_none_iff, List.find?_eq_none]
  simp
def blobO (s : ByteArray) : Ob := ⟨1, s, [], zD, [], ⟨#[]⟩, 0, ⟨#[]⟩⟩
def treeO (es : List Ent) : Ob := ⟨2, ⟨#[]⟩, es, zD, [], ⟨#[]⟩, 0, ⟨#[]⟩⟩
theorem noC_zero (k : Int) (d : ByteArray) (es : List Ent) : NoC ⟨k, d, es, zD, [], ⟨#[]⟩, 0, ⟨#[]⟩⟩ := ⟨rfl, rfl, rfl, rfl, rfl⟩
theorem okO_blob {s : ByteArray} (h : s.size ≤ 60000) : OkO (blobO s) where
  f := .blob (.inl rfl) rfl (noC_zero _ _ _) (by show s.size ≤ _; omega)
  len := by
    show (encN 1 ++ encT (toL s)).length ≤ 65536
    unfold encT
    rw [size_toL] at h
    have h1 := encN_len 5 1 (by omega)
    have h2 := encN_len 5 (toL s).length (by omega)
    simp only [List.length_append]; omega
theorem encEs_len : ∀ {es : List Ent}, (∀ e ∈ es, OkEnt e) → (es.flatMap encE).length ≤ 52 * es.length
  | [], _ => by simp
  | e :: es, h => by
    have ih := encEs_len (es := es) (fun x hx => h x (by simp [hx]))
    have hn := nameB_size (h e (by simp)).nm
    rw [size_toL] at hn
    have h1 := encN_len 5 (toL e.nm).length (by omega)
    have h2 := encN_len 5 (if e.dir = true then 1 else 0) (by split <;> omega)
    rw [List.flatMap_cons, List.length_append, List.length_cons]
    have : (encE e).length ≤ 52 := by
      unfold encE encT
      simp only [List.length_append, digB_len]; omega
    omega
theorem okO_treeO {es : List Ent} (h : OkEs es) : OkO (treeO es) where
  f := .tree rfl rfl (noC_zero _ _ _) h
  len := by
    show (encN 2 ++ encB (treeO es)).length ≤ 65536
    have h1 := encN_len 5 2 (by omega)
    have h2 := encN_len 5 es.length (by have := h.few; omega)
    have h3 := encEs_len h.all
    have h4 := h.few
    have : encB (treeO es) = encN es.length ++ es.flatMap encE := by unfold encB; exact if_pos rfl
    rw [this]
    simp only [List.length_append]; omega
theorem u64_rng (x : Int) : 0 ≤ IntKind.u64.wrap x ∧ IntKind.u64.wrap x < 18446744073709551616 := by
  have e : IntKind.u64.wrap x = x % 18446744073709551616 := rfl
  rw [e]
  omega
theorem dgF_rng {g : Int → Int → Int} (hg : ∀ a b, 0 ≤ g a b ∧ g a b < 18446744073709551616) (l : Bytes) : 0 ≤ dgF g l ∧ dgF g l < 18446744073709551616 := by
  unfold dgF
  have : ∀ (l : Bytes) (z : Int), 0 ≤ z ∧ z < 18446744073709551616 → 0 ≤ l.foldl (fun h b => g h (IntKind.u64.wrap (b.toNat : Int))) z ∧ l.foldl (fun h b => g h (IntKind.u64.wrap (b.toNat : Int))) z < 18446744073709551616 := by
    intro l
    induction l with
    | nil => intro z h; exact h
    | cons c l ih => intro z _; exact ih _ (hg _ _)
  exact this l _ ⟨by decide, by decide⟩
theorem wf_ofB (l : Bytes) : WfD (ofB l) := by
  have h1 := dgF_rng (g := dg1) (fun a b => u64_rng _) l
  have h2 := dgF_rng (g := dg2) (fun a b => u64_rng _) l
  unfold ofB WfD
  split
  · exact ⟨by decide, by decide, by decide, by decide⟩
  · exact ⟨h1.1, h1.2, h2.1, h2.2⟩
theorem ofB_nz (l : Bytes) : ofB l ≠ zD := by
  unfold ofB zD
  split
  · decide
  · rename_i h
    intro e
    rw [Prod.mk.injEq] at e
    exact h e
def wt (l : List Fl) : Nat := (l.map (fun f => f.1.size + 1)).sum
def selN (l : List Fl) (n : ByteArray) : List Fl := l.filter (fun f => decide (fsN f.1 = n))
def remN (l : List Fl) (ns : List ByteArray) : List Fl := l.filter (fun f => !memB ns (fsN f.1))
theorem wt_cons (f : Fl) (l : List Fl) : wt (f :: l) = f.1.size + 1 + wt l := by simp [wt]
theorem memB_snoc (ns : List ByteArray) (n x : ByteArray) : memB (ns ++ [n]) x = (memB ns x || decide (x = n)) := by
  rw [Bool.eq_iff_iff, memB_iff, Bool.or_eq_true, memB_iff, List.mem_append, List.mem_singleton, decide_eq_true_eq]
theorem wt_split (l : List Fl) {ns : List ByteArray} {n : ByteArray} (hn : n ∉ ns) : wt (remN l ns) = wt (remN l (ns ++ [n])) + wt (selN l n) := by
  induction l with
  | nil => rfl
  | cons f l ih =>
    unfold remN selN at *
    by_cases h2 : fsN f.1 = n
    · have h1 : memB ns (fsN f.1) = false := by rw [Bool.eq_false_iff]; intro h; exact hn (by rw [← h2]; exact (memB_iff _ _).1 h)
      rw [List.filter_cons_of_pos (by simp [h1]), List.filter_cons_of_neg (by rw [memB_snoc]; simp [h2]), List.filter_cons_of_pos (by simpa using h2), wt_cons, wt_cons, ih]; omega
    · cases h1 : memB ns (fsN f.1) with
      | true => rw [List.filter_cons_of_neg (by simp [h1]), List.filter_cons_of_neg (by rw [memB_snoc]; simp [h1]), List.filter_cons_of_neg (by simpa using h2), ih]
      | false => rw [List.filter_cons_of_pos (by simp [h1]), List.filter_cons_of_pos (by rw [memB_snoc]; simp [h1, h2]), List.filter_cons_of_neg (by simpa using h2), wt_cons, wt_cons, ih]; omega
theorem wt_sub (l : List Fl) (n : ByteArray) : wt (inD l n) + (inD l n).length ≤ wt (selN l n) := by
  induction l with
  | nil => simp [inD, wt]
  | cons f l ih =>
    unfold inD selN at *
    by_cases h2 : fsN f.1 = n
    · rw [List.filter_cons_of_pos (p := fun f : Fl => decide (fsN f.1 = n)) (by simpa using h2), wt_cons]
      cases hd : deN f.1 with
      | true =>
        rw [List.filter_cons_of_pos (by simp [hd, h2]), List.map_cons, wt_cons, List.length_cons]
        have hl := congrArg List.length (cut_deep hd)
        simp only [List.length_append, List.length_cons, bl_size] at hl
        simp only
        omega
      | false =>
        rw [List.filter_cons_of_neg (by simp [hd])]
        omega
    · rw [List.filter_cons_of_neg (p := fun f : Fl => decide (fsN f.1 = n)) (by simpa using h2), List.filter_cons_of_neg (by simp [h2])]
      exact ih
theorem wt_mem {l : List Fl} {f : Fl} (h : f ∈ l) : 1 ≤ wt l := by
  induction l with
  | nil => cases h
  | cons g l ih => rw [wt_cons]; omega
theorem wt_all (l : List Fl) : wt (remN l []) = wt l := by
  unfold remN; rw [List.filter_eq_self.2 (fun f _ => by simp [memB])]
theorem wt_le {l : List Fl} {k : Nat} (h : ∀ f ∈ l, f.1.size ≤ k) : wt l ≤ (k + 1) * l.length := by
  induction l with
  | nil => simp [wt]
  | cons f l ih =>
    rw [wt_cons, List.length_cons, Nat.mul_succ]
    have := ih (fun g hg => h g (by simp [hg]))
    have := h f (by simp)
    omega
theorem putP_len {p q : List Itm} {o : Ob} (h : putP p o = some q) : q.length ≤ p.length + 1 := insP_len h
noncomputable def stoE (g : List Itm → List Fl → Option (List Itm × Dig)) (l : List Fl) : List Itm → List ByteArray → List Ent → Option (List Itm × List Ent)
  | p, [], es => some (p, es)
  | p, n :: r, es => match lookF9 l n with
    | some s => match putP p (blobO s) with
      | none => none
      | some q => stoE g l q r (es ++ [⟨n, false, dgO (blobO s)⟩])
    | none => match g p (inD l n) with
      | none => none
      | some (q, d) => stoE g l q r (es ++ [⟨n, true, d⟩])
noncomputable def sto : Nat → List Itm → List Fl → Option (List Itm × Dig)
  | 0, _, _ => none
  | k + 1, p, l => match stoE (sto k) l p (nmsP l) [] with
    | none => none
    | some (q, es) => match putP q (treeO es) with
      | none => none
      | some r => some (r, dgO (treeO es))
theorem stoE_file {g : List Itm → List Fl → Option (List Itm × Dig)} {l : List Fl} {p q : List Itm} {n s : ByteArray} {r : List ByteArray} {es : List Ent} (h : lookF9 l n = some s) (hp : putP p (blobO s) = some q) :
    stoE g l p (n :: r) es = stoE g l q r (es ++ [⟨n, false, dgO (blobO s)⟩]) := by rw [stoE, h]; simp only [hp]
theorem stoE_filex {g : List Itm → List Fl → Option (List Itm × Dig)} {l : List Fl} {p : List Itm} {n s : ByteArray} {r : List ByteArray} {es : List Ent} (h : lookF9 l n = some s) (hp : putP p (blobO s) = none) :
    stoE g l p (n :: r) es = none := by rw [stoE, h]; simp only [hp]
theorem stoE_dir {g : List Itm → List Fl → Option (List Itm × Dig)} {l : List Fl} {p q : List Itm} {d : Dig} {n : ByteArray} {r : List ByteArray} {es : List Ent} (h : lookF9 l n = none) (hp : g p (inD l n) = some (q, d)) :
    stoE g l p (n :: r) es = stoE g l q r (es ++ [⟨n, true, d⟩]) := by rw [stoE, h]; simp only [hp]
theorem stoE_dirx {g : List Itm → List Fl → Option (List Itm × Dig)} {l : List Fl} {p : List Itm} {n : ByteArray} {r : List ByteArray} {es : List Ent} (h : lookF9 l n = none) (hp : g p (inD l n) = none) :
    stoE g l p (n :: r) es = none := by rw [stoE, h]; simp only [hp]
structure StoAt (k : Nat) (l : List Fl) (p0 : List Itm) (j : Nat) (p : List Itm) (es : List Ent) : Prop where
  eq : stoE (sto k) l p0 (nmsP l) [] = stoE (sto k) l p ((nmsP l).drop j) es
  ok : PlOk p
  nm : es.map Ent.nm = (nmsP l).take j
  all : ∀ e ∈ es, OkEnt e
  sub : subP p0 p
  len : p.length + wt (remN l ((nmsP l).take j)) ≤ p0.length + wt l
theorem StoAt.start {k : Nat} {l : List Fl} {p : List Itm} (h : PlOk p) : StoAt k l p 0 p [] := ⟨rfl, h, rfl, (fun e he => by cases he), subP.refl _, by rw [List.take_zero, wt_all]; omega⟩
theorem rem_step {l : List Fl} {j : Nat} {n : ByteArray} (hn : (nmsP l)[j]? = some n) : wt (remN l ((nmsP l).take j)) = wt (remN l ((nmsP l).take (j + 1))) + wt (selN l n) := by
  rw [take_snoc hn]
  refine wt_split l ?_
  intro hm
  have hnd := (nms_asc l).nodup
  obtain ⟨i, hi, e⟩ := List.getElem_of_mem hm
  rw [List.length_take] at hi
  rw [List.getElem_take] at e
  obtain ⟨h1, h2⟩ := List.getElem?_eq_some_iff.1 hn
  exact List.pairwise_iff_getElem.1 hnd i j (by omega) h1 (by omega) (e.trans h2.symm)
theorem StoAt.drop {k : Nat} {l : List Fl} {p0 p : List Itm} {j : Nat} {es : List Ent} (h : StoAt k l p0 j p es) {n : ByteArray} (hn : (nmsP l)[j]? = some n) : stoE (sto k) l p0 (nmsP l) [] = stoE (sto k) l p (n :: (nmsP l).drop (j + 1)) es := by
  rw [h.eq, drop_at hn]
theorem nm_ok {l : List Fl} (hl : OkL l) {j : Nat} {n : ByteArray} (hn : (nmsP l)[j]? = some n) : nameB n = true := by
  obtain ⟨f, hf, rfl⟩ := nms_mem.1 (List.mem_of_getElem? hn)
  exact path_name (hl.path f hf)
theorem StoAt.file {k : Nat} {l : List Fl} {p0 p q : List Itm} {j : Nat} {es : List Ent} (h : StoAt k l p0 j p es) (hl : OkL l) {n s : ByteArray} (hn : (nmsP l)[j]? = some n) (hs : lookF9 l n = some s) (hp : putP p (blobO s) = some q) :
    StoAt k l p0 (j + 1) q (es ++ [⟨n, false, dgO (blobO s)⟩]) where
  eq := by rw [h.drop hn, stoE_file hs hp]
  ok := putP_ok h.ok (okO_blob (hl.data _ ((look9_some hl.nod).1 hs))) hp
  nm := by rw [List.map_append, h.nm, take_snoc hn]; rfl
  all e he := by
    rcases List.mem_append.1 he with he | he
    · exact h.all e he
    · rw [List.mem_singleton] at he; subst he
      exact ⟨nm_ok hl hn, wf_ofB _, ofB_nz _⟩
  sub := h.sub.trans (putP_sub h.ok hp)
  len := by
    have h1 := h.len
    rw [rem_step hn] at h1
    have h2 := putP_len hp
    have hm := (look9_some hl.nod).1 hs
    obtain ⟨f, _, e⟩ := nms_mem.1 (List.mem_of_getElem? hn)
    have h3 : 1 ≤ wt (selN l n) := wt_mem (f := (n, s)) (List.mem_filter.2 ⟨hm, by rw [decide_eq_true_eq]; show fsN n = n; rw [e]; exact (cut_no (fsN_nosl _)).1⟩)
    omega
theorem StoAt.filex {k : Nat} {l : List Fl} {p0 p : List Itm} {j : Nat} {es : List Ent} (h : StoAt k l p0 j p es) {n s : ByteArray} (hn : (nmsP l)[j]? = some n) (hs : lookF9 l n = some s) (hp : putP p (blobO s) = none) :
    sto (k + 1) p0 l = none := by rw [sto, h.drop hn, stoE_filex hs hp]
structure StoR (p q : List Itm) (d : Dig) (l : List Fl) : Prop where
  ok : PlOk q
  sub : subP p q
  wf : WfD d
  nz : d ≠ zD
  len : q.length ≤ p.length + wt l + 1
theorem StoAt.dir {k : Nat} {l : List Fl} {p0 p q : List Itm} {j : Nat} {es : List Ent} (h : StoAt k l p0 j p es) (hl : OkL l) {n : ByteArray} {d : Dig} (hn : (nmsP l)[j]? = some n) (hs : lookF9 l n = none) (hp : sto k p (inD l n) = some (q, d)) (hr : StoR p q d (inD l n)) (hne : inD l n ≠ []) :
    StoAt k l p0 (j + 1) q (es ++ [⟨n, true, d⟩]) where
  eq := by rw [h.drop hn, stoE_dir hs hp]
  ok := hr.ok
  nm := by rw [List.map_append, h.nm, take_snoc hn]; rfl
  all e he := by
    rcases List.mem_append.1 he with he | he
    · exact h.all e he
    · rw [List.mem_singleton] at he; subst he
      exact ⟨nm_ok hl hn, hr.wf, hr.nz⟩
  sub := h.sub.trans hr.sub
  len := by
    have h1 := h.len
    rw [rem_step hn] at h1
    have h2 := hr.len
    have h3 := wt_sub l n
    have h4 : 0 < (inD l n).length := List.length_pos_iff.2 hne
    omega
theorem StoAt.dirx {k : Nat} {l : List Fl} {p0 p : List Itm} {j : Nat} {es : List Ent} (h : StoAt k l p0 j p es) {n : ByteArray} (hn : (nmsP l)[j]? = some n) (hs : lookF9 l n = none) (hp : sto k p (inD l n) = none) :
    sto (k + 1) p0 l = none := by rw [sto, h.drop hn, stoE_dirx hs hp]
theorem asc_ents {es : List Ent} (h : Asc (es.map Ent.nm)) {j : Nat} {a b : Ent} (ha : es[j]? = some a) (hb : es[j + 1]? = some b) : less a.nm b.nm = true := by
  unfold Asc at h
  rw [List.pairwise_map, List.pairwise_iff_getElem] at h
  obtain ⟨h1, rfl⟩ := List.getElem?_eq_some_iff.1 ha
  obtain ⟨h2, rfl⟩ := List.getElem?_eq_some_iff.1 hb
  exact h j (j + 1) h1 h2 (by omega)
theorem StoAt.es {k : Nat} {l : List Fl} {p0 p : List Itm} {j : Nat} {es : List Ent} (h : StoAt k l p0 j p es) (hl : OkL l) : OkEs es where
  few := by
    have h1 := congrArg List.length h.nm
    rw [List.length_map, List.length_take] at h1
    have := nms_len l
    have := hl.few
    omega
  all := h.all
  asc j' a b ha hb := asc_ents (by rw [h.nm]; exact (nms_asc l).sublist (List.take_sublist _ _)) ha hb
theorem StoAt.done {k : Nat} {l : List Fl} {p0 p q : List Itm} {j : Nat} {es : List Ent} (h : StoAt k l p0 j p es) (hj : (nmsP l).length ≤ j) (hp : putP p (treeO es) = some q) : sto (k + 1) p0 l = some (q, dgO (treeO es)) := by
  rw [sto, h.eq, List.drop_of_length_le hj]
  simp only [stoE, hp]
theorem StoAt.donex {k : Nat} {l : List Fl} {p0 p : List Itm} {j : Nat} {es : List Ent} (h : StoAt k l p0 j p es) (hj : (nmsP l).length ≤ j) (hp : putP p (treeO es) = none) : sto (k + 1) p0 l = none := by
  rw [sto, h.eq, List.drop_of_length_le hj]
  simp only [stoE, hp]
theorem StoAt.res {k : Nat} {l : List Fl} {p0 p q : List Itm} {j : Nat} {es : List Ent} (h : StoAt k l p0 j p es) (hl : OkL l) (hp : putP p (treeO es) = some q) : StoR p0 q (dgO (treeO es)) l :=
  ⟨putP_ok h.ok (okO_treeO (h.es hl)) hp, h.sub.trans (putP_sub h.ok hp), wf_ofB _, ofB_nz _, by have := putP_len hp; have := h.len; omega⟩
theorem StoAt.elen {k : Nat} {l : List Fl} {p0 p : List Itm} {j : Nat} {es : List Ent} (h : StoAt k l p0 j p es) (hj : j ≤ (nmsP l).length) : es.length = j := by
  have := congrArg List.length h.nm
  rw [List.length_map, List.length_take] at this
  omega
theorem StoAt.plen {k : Nat} {l : List Fl} {p0 p : List Itm} {j : Nat} {es : List Ent} (h : StoAt k l p0 j p es) : p.length ≤ p0.length + wt l := by have := h.len; omega
theorem dir_ne {l : List Fl} {n : ByteArray} (hn : n ∈ nmsP l) (h : lookF9 l n = none) : inD l n ≠ [] := by
  obtain ⟨f, hf, rfl⟩ := nms_mem.1 hn
  intro e
  cases hd : deN f.1 with
  | true =>
    have : (rsN f.1, f.2) ∈ inD l (fsN f.1) := mem_inD.2 ⟨f, hf, hd, rfl, rfl⟩
    rw [e] at this; cases this
  | false => exact look9_none.1 h f hf (cut_flat hd).symm
end Go.Proofs.YtmdhlkkekidknaaGreatDoor

namespace Go.Proofs
open Go.Shelf
def Tryz.laysGsp_ren : Go.Shelf.Ren := ⟨fun | 221 => 117 | 268 => 166 | 138 => 21 | 143 => 54 | 195 => 52 | 197 => 186 | 218 => 53 | 219 => 105 | 260 => 209 | 217 => 136 | 225 => 137 | 224 => 138 | 267 => 139 | 266 => 188 | 314 => 189 | n => n, fun | 9 => 9 | 3 => 3 | 31 => 96 | 4 => 4 | 0 => 0 | 105 => 204 | 21 => 21 | 5 => 5 | 46 => 144 | 119 => 237 | 139 => 240 | 138 => 239 | 146 => 207 | 51 => 176 | n => n, fun | 1 => 0 | 3 => 1 | 4 => 2 | n => n⟩
theorem Tryz.laysGsp : Go.Proofs.Lays.n221 Tryz.prog Tryz.laysGsp_ren := {
  mixed := by kernel_rfl
  f138 := Tryz.func21.trans (congrArg some (by kernel_rfl))
  f143 := Tryz.func54.trans (congrArg some (by kernel_rfl))
  f195 := Tryz.func52.trans (congrArg some (by kernel_rfl))
  f197 := Tryz.func186.trans (congrArg some (by kernel_rfl))
  f217 := Tryz.func136.trans (congrArg some (by kernel_rfl))
  f218 := Tryz.func53.trans (congrArg some (by kernel_rfl))
  f219 := Tryz.func105.trans (congrArg some (by kernel_rfl))
  f221 := Tryz.func117.trans (congrArg some (by kernel_rfl))
  f224 := Tryz.func138.trans (congrArg some (by kernel_rfl))
  f225 := Tryz.func137.trans (congrArg some (by kernel_rfl))
  f260 := Tryz.func209.trans (congrArg some (by kernel_rfl))
  f266 := Tryz.func188.trans (congrArg some (by kernel_rfl))
  f267 := Tryz.func139.trans (congrArg some (by kernel_rfl))
  f268 := Tryz.func166.trans (congrArg some (by kernel_rfl))
  f314 := Tryz.func189.trans (congrArg some (by kernel_rfl))
  t0 := Tryz.underlying0
  a0 := Tryz.isAgg0
  z0 := Tryz.sizeOf0
  v0 := Tryz.zeroValue0
  t3 := Tryz.underlying3
  a3 := Tryz.isAgg3
  z3 := Tryz.sizeOf3
  v3 := Tryz.zeroValue3
  t4 := Tryz.underlying4
  a4 := Tryz.isAgg4
  z4 := Tryz.sizeOf4
  v4 := Tryz.zeroValue4
  t5 := Tryz.underlying5
  a5 := Tryz.isAgg5
  z5 := Tryz.sizeOf5
  v5 := Tryz.zeroValue5
  t9 := Tryz.underlying9
  a9 := Tryz.isAgg9
  z9 := Tryz.sizeOf9
  v9 := Tryz.zeroValue9
  t21 := Tryz.underlying21
  a21 := Tryz.isAgg21
  z21 := Tryz.sizeOf21
  v21 := Tryz.zeroValue21
  t31 := Tryz.underlying96
  a31 := Tryz.isAgg96
  z31 := Tryz.sizeOf96
  v31 := Tryz.zeroValue96
  t46 := Tryz.underlying144
  a46 := Tryz.isAgg144
  z46 := Tryz.sizeOf144
  v46 := Tryz.zeroValue144
  t51 := Tryz.underlying176
  a51 := Tryz.isAgg176
  z51 := Tryz.sizeOf176
  v51 := Tryz.zeroValue176
  t105 := Tryz.underlying204
  a105 := Tryz.isAgg204
  z105 := Tryz.sizeOf204
  v105 := Tryz.zeroValue204
  t119 := Tryz.underlying237
  a119 := Tryz.isAgg237
  z119 := Tryz.sizeOf237
  t138 := Tryz.underlying239
  a138 := Tryz.isAgg239
  z138 := Tryz.sizeOf239
  v138 := Tryz.zeroValue239
  t139 := Tryz.underlying240
  a139 := Tryz.isAgg240
  z139 := Tryz.sizeOf240
  v139 := Tryz.zeroValue240
  t146 := Tryz.underlying207
  a146 := Tryz.isAgg207
  z146 := Tryz.sizeOf207
  v146 := Tryz.zeroValue207
  g1 := by kernel_rfl
  g3 := by kernel_rfl
  g4 := by kernel_rfl }
def Tryz.idxEnt_ren : Go.Shelf.Ren := ⟨fun | 6 => 70 | n => n, fun | 22 => 79 | 23 => 102 | 25 => 103 | 3 => 3 | 0 => 0 | 4 => 4 | n => n, fun | n => n⟩
theorem Tryz.idxEnt : Go.Proofs.SlLaysH0.n6 Tryz.prog Tryz.idxEnt_ren := {
  mixed := by kernel_rfl
  f6 := ⟨Tryz.f70.name, by decide, Tryz.func70.trans (congrArg some (by kernel_rfl))⟩
  t0 := Tryz.underlying0
  a0 := Tryz.isAgg0
  z0 := Tryz.sizeOf0
  v0 := Tryz.zeroValue0
  t3 := Tryz.underlying3
  a3 := Tryz.isAgg3
  z3 := Tryz.sizeOf3
  v3 := Tryz.zeroValue3
  t4 := Tryz.underlying4
  a4 := Tryz.isAgg4
  z4 := Tryz.sizeOf4
  v4 := Tryz.zeroValue4
  t22 := Tryz.underlying79
  a22 := Tryz.isAgg79
  z22 := Tryz.sizeOf79
  v22 := Tryz.zeroValue79
  t25 := Tryz.underlying103
  a25 := Tryz.isAgg103
  z25 := Tryz.sizeOf103
  v25 := Tryz.zeroValue103 }
def Tryz.keysF_ren : Go.Shelf.Ren := ⟨fun | 7 => 89 | 10 => 128 | n => n, fun | 23 => 124 | 26 => 9 | 3 => 68 | 28 => 115 | 0 => 0 | 27 => 114 | 33 => 70 | 4 => 4 | n => n, fun | n => n⟩
theorem Tryz.keysF : Go.Proofs.SlLaysZ.n7 Tryz.prog Tryz.keysF_ren := {
  mixed := by kernel_rfl
  f7 := ⟨Tryz.f89.name, by decide, Tryz.func89.trans (congrArg some (by kernel_rfl))⟩
  f10 := ⟨Tryz.f128.name, by decide, Tryz.func128.trans (congrArg some (by kernel_rfl))⟩
  t0 := Tryz.underlying0
  a0 := Tryz.isAgg0
  z0 := Tryz.sizeOf0
  v0 := Tryz.zeroValue0
  t4 := Tryz.underlying4
  a4 := Tryz.isAgg4
  z4 := Tryz.sizeOf4
  v4 := Tryz.zeroValue4
  t23 := Tryz.underlying124
  a23 := Tryz.isAgg124
  z23 := Tryz.sizeOf124
  v23 := Tryz.zeroValue124
  t26 := Tryz.underlying9
  a26 := Tryz.isAgg9
  z26 := Tryz.sizeOf9
  v26 := Tryz.zeroValue9
  t27 := Tryz.underlying114
  a27 := Tryz.isAgg114
  z27 := Tryz.sizeOf114
  v27 := Tryz.zeroValue114
  t28 := Tryz.underlying115
  a28 := Tryz.isAgg115
  z28 := Tryz.sizeOf115
  v28 := Tryz.zeroValue115
  t33 := Tryz.underlying70
  a33 := Tryz.isAgg70
  z33 := Tryz.sizeOf70
  v33 := Tryz.zeroValue70 }
def Tryz.keysB_ren : Go.Shelf.Ren := ⟨fun | 7 => 91 | 10 => 129 | n => n, fun | 23 => 123 | 26 => 9 | 3 => 24 | 28 => 115 | 0 => 0 | 27 => 114 | 33 => 70 | 4 => 4 | n => n, fun | n => n⟩
theorem Tryz.keysB : Go.Proofs.SlLaysZ.n7 Tryz.prog Tryz.keysB_ren := {
  mixed := by kernel_rfl
  f7 := ⟨Tryz.f91.name, by decide, Tryz.func91.trans (congrArg some (by kernel_rfl))⟩
  f10 := ⟨Tryz.f129.name, by decide, Tryz.func129.trans (congrArg some (by kernel_rfl))⟩
  t0 := Tryz.underlying0
  a0 := Tryz.isAgg0
  z0 := Tryz.sizeOf0
  v0 := Tryz.zeroValue0
  t4 := Tryz.underlying4
  a4 := Tryz.isAgg4
  z4 := Tryz.sizeOf4
  v4 := Tryz.zeroValue4
  t23 := Tryz.underlying123
  a23 := Tryz.isAgg123
  z23 := Tryz.sizeOf123
  v23 := Tryz.zeroValue123
  t26 := Tryz.underlying9
  a26 := Tryz.isAgg9
  z26 := Tryz.sizeOf9
  v26 := Tryz.zeroValue9
  t27 := Tryz.underlying114
  a27 := Tryz.isAgg114
  z27 := Tryz.sizeOf114
  v27 := Tryz.zeroValue114
  t28 := Tryz.underlying115
  a28 := Tryz.isAgg115
  z28 := Tryz.sizeOf115
  v28 := Tryz.zeroValue115
  t33 := Tryz.underlying70
  a33 := Tryz.isAgg70
  z33 := Tryz.sizeOf70
  v33 := Tryz.zeroValue70 }
def Tryz.keysS_ren : Go.Shelf.Ren := ⟨fun | 7 => 81 | 10 => 120 | n => n, fun | 23 => 118 | 26 => 9 | 3 => 9 | 28 => 115 | 0 => 0 | 27 => 114 | 33 => 70 | 4 => 4 | n => n, fun | n => n⟩
theorem Tryz.keysS : Go.Proofs.SlLaysZ.n7 Tryz.prog Tryz.keysS_ren := {
  mixed := by kernel_rfl
  f7 := ⟨Tryz.f81.name, by decide, Tryz.func81.trans (congrArg some (by kernel_rfl))⟩
  f10 := ⟨Tryz.f120.name, by decide, Tryz.func120.trans (congrArg some (by kernel_rfl))⟩
  t0 := Tryz.underlying0
  a0 := Tryz.isAgg0
  z0 := Tryz.sizeOf0
  v0 := Tryz.zeroValue0
  t4 := Tryz.underlying4
  a4 := Tryz.isAgg4
  z4 := Tryz.sizeOf4
  v4 := Tryz.zeroValue4
  t23 := Tryz.underlying118
  a23 := Tryz.isAgg118
  z23 := Tryz.sizeOf118
  v23 := Tryz.zeroValue118
  t26 := Tryz.underlying9
  a26 := Tryz.isAgg9
  z26 := Tryz.sizeOf9
  v26 := Tryz.zeroValue9
  t27 := Tryz.underlying114
  a27 := Tryz.isAgg114
  z27 := Tryz.sizeOf114
  v27 := Tryz.zeroValue114
  t28 := Tryz.underlying115
  a28 := Tryz.isAgg115
  z28 := Tryz.sizeOf115
  v28 := Tryz.zeroValue115
  t33 := Tryz.underlying70
  a33 := Tryz.isAgg70
  z33 := Tryz.sizeOf70
  v33 := Tryz.zeroValue70 }
end Go.Proofs

namespace Go.Proofs.YtmdhlkkekidknaaGreatDoor
open Go.RowKit Go.Maps
attribute [local go_sem] Oper.semAt_some

theorem own_row {W : World} {base size n : Nat} {e : TypeId} {v : Value} {xs : List Value} (h : W.ownsRow base e size v n xs) {k : Nat} (hk : v.ownBlock = some k) : base ≤ k ∧ ∃ cur, W.heap[k]? = some (.cells cur e (0, 0)) := by
  rcases h.2 with ⟨rfl, _⟩ | ⟨g, cap, cur, rfl, h1, h2, _⟩
  · cases hk
  · cases hk; exact ⟨h1, cur, h2⟩
theorem own_keep {W W' : World} {base size n : Nat} {e : TypeId} {v : Value} {xs : List Value} (h : W.ownsRow base e size v n xs) (hk : ∀ k, v.ownBlock = some k → W'.heap[k]? = W.heap[k]?) : W'.ownsRow base e size v n xs := by
  refine ⟨h.1, ?_⟩
  rcases h.2 with h0 | ⟨g, cap, cur, rfl, h1, h2, h3⟩
  · exact .inl h0
  · exact .inr ⟨g, cap, cur, rfl, h1, (hk g rfl).trans h2, h3⟩

end Go.Proofs.YtmdhlkkekidknaaGreatDoor

namespace Go.Proofs.YtmdhlkkekidknaaGreatDoor
open Go.RowKit Go.Maps Go.Sort Go.Shelf
attribute [local go_sem] Oper.semAt_some

theorem keys_nodup {w : World} {P : Program} {k : TypeId} {b N : Nat} {D : DataW Value} (hown : w.ownsMap P k rawR b N D) (hk : P.underlying k = some .string) : (strKeys D).Nodup := by
  obtain ⟨es, hD, hpw, _⟩ := hown.entries (string_keyed hk)
  obtain ⟨es', hD', hko⟩ := hown.keysOf
  obtain rfl : es = es' := by rw [hD] at hD'; simpa using hD'
  subst hD
  show (es.map fun p => strOf p.1).Nodup
  refine List.pairwise_map.2 (hpw.imp_of_mem fun {p q} hp' hq' hne e => hne ?_)
  obtain ⟨v, hv⟩ := hko p hp'
  obtain ⟨u, hu⟩ := hko q hq'
  obtain ⟨a, _, ha, _⟩ := Maps.keyOf_str hk hv
  obtain ⟨b, _, hb, _⟩ := Maps.keyOf_str hk hu
  rw [ha, hb] at e ⊢
  exact congrArg _ e
structure KeysR (g : ByteArray → Option Value) (N : Nat) (ks : List ByteArray) : Prop where
  nod : ks.Nodup
  mem : ∀ x, x ∈ ks ↔ (g x).isSome = true
  few : ks.length ≤ N
theorem Rm.keys {w : World} {P : Program} {k : TypeId} {b N : Nat} {g : ByteArray → Option Value} (h : Rm w P k b N g) (hk : P.underlying k = some .string) :
    ∃ D : DataW Value, w.ownsMap P k rawR b N D ∧ Maps.size D ≤ N ∧ ∀ ss : List (List UInt8), ss.Perm (strKeys D) ∧ (∀ x, x ∈ ss ↔ Maps.has D (.string x) = true) → KeysR g N (ss.map ub) := by
  obtain ⟨D, h1, h2⟩ := h
  have hsz : Maps.size D ≤ N := h1.size_le
  refine ⟨D, h1, hsz, fun ss hs => ?_⟩
  have hnd := (hs.1.nodup_iff).2 (keys_nodup h1 hk)
  refine ⟨?_, fun x => ?_, ?_⟩
  · unfold List.Nodup
    rw [List.pairwise_map]
    exact hnd.imp (fun hne e => hne (by have := congrArg bl e; simpa [bl, ub] using this))
  · rw [← (h2 x).1, ← hs.2, List.mem_map]
    constructor
    · rintro ⟨l, hl, rfl⟩; simpa [ub] using hl
    · intro h; exact ⟨bl x, h, by rw [ub_bl]⟩
  · rw [List.length_map, hs.1.length_eq]
    obtain ⟨es, rfl, _⟩ := h1.keysOf
    have : (strKeys (DataW.map es)).length = Maps.size (DataW.map es) := by simp [strKeys, Maps.size]
    omega
theorem ownsRow_other_box {w : World} {base size n b : Nat} {e t : TypeId} {v u : Value} {xs : List Value} (h : w.ownsRow base e size v n xs) (hb : w.heap[b]? = some (.cells #[u] t (0, 0))) (x : Value) (hne : e ≠ t := by decide) : (w.setCell ⟨b, 0, none⟩ x).ownsRow base e size v n xs := by
  refine h.kept (row := some b) ⟨rfl, rfl, rfl, by simp, fun k _ hk => Below.heap_setCell _ _ _ k (fun e => hk (by rw [e]))⟩ ?_
  cases hv : v.ownBlock with
  | none => exact .inl rfl
  | some k =>
    refine .inr fun he => ?_
    obtain ⟨_, cur, hc⟩ := own_row h hv
    cases he
    rw [hb] at hc
    cases hc
    exact hne rfl
theorem enc_ub (x : List UInt8) : encStr x = .string (ub x) := rfl
set_option maxRecDepth 100000 in
set_option maxHeartbeats 4000000 in
theorem appSeq_any (gf : Nat) (lb : Array Value) (eg : ∀ args w, (callFunc gf args).run Tryz.prog w = .ok (.enter gf args) w) (S Sp : List (List UInt8) → Prop) (N : Nat) (A : Option Addr) (n c : Nat) (l0 : List ByteArray) (w0 w : World)
    (hrow : w.ownsRow w0.heap.size 9 1 (.slice A n c) n (strs l0)) (hbw : Below w0.heap.size w0 w) (hn : n + N ≤ 1000000) (hseq : SeqStops Fence.wide 5 Tryz.prog gf lb encStr S Sp N w) :
    Calls Tryz.prog 90 #[.slice A n c, .func (.func gf) #[] lb] w fun e w' =>
      ∃ A' c' ss, e = .returned (.slice A' (n + ss.length) c') ∧ S ss ∧ w'.ownsRow w0.heap.size 9 1 (.slice A' (n + ss.length) c') (n + ss.length) (strs (l0 ++ ss.map ub)) ∧ Below w0.heap.size w0 w' := by
  refine (callsIn_wide (n := 6)).1 ?_
  have hf1 : Fence.wide.fn gf := trivial
  refine callsIn_of_wp_marks Tryz.func90 rfl trivial ?_ rfl
  simp only [Tryz.ntmps90, List.size_toArray, List.length_cons, List.length_nil, Nat.reduceAdd, Nat.reduceSub, Array.replicate_succ, Array.replicate_zero, List.push_toArray, List.append_toArray, List.nil_append, List.cons_append]
  have HROW := Lib.hid hrow; have HBW := Lib.hid hbw; have HSEQ := Lib.hid hseq
  have zbw := hbw.size
  clear hrow hbw hseq
  gi_wp2
  obtain ⟨W2, hW2⟩ : ∃ W2, w.alloc (.cells #[.slice A n c] 96) = W2 := ⟨_, rfl⟩
  have hb2 : Below w0.heap.size w0 W2 := by rw [← hW2]; exact HBW.out.alloc zbw _
  have hb2' : Below w.heap.size w W2 := by rw [← hW2]; exact (Below.refl _ w).alloc (Nat.le_refl _) _
  have g1 : W2.heap[w.heap.size]? = some (.cells #[.slice A n c] 96 (0, 0)) := by rw [← hW2]; exact World.alloc_heap_new w _
  have hy2 : W2.heap.size = w.heap.size + 1 := by rw [← hW2]; simp
  have hr2 : W2.ownsRow w0.heap.size 9 1 (.slice A n c) n (strs l0) := by
    rw [← hW2]
    exact HROW.out.kept (World.grownBy_alloc w _ none) (by cases hv : (Value.slice A n c).ownBlock with | none => exact .inl rfl | some k => exact .inr (by simp))
  rw [hW2]
  clear hW2
  refine wpIn_rangeFunc_ownF (α := List UInt8) (F := Fence.wide) (n := 6) rfl (by omega) (gf := gf) (lb := lb) rfl trivial eg (encs := fun x => #[encStr x]) (Kp := KeepsWalks) (S := S) (Sp := Sp) (N := N) (w0 := w) HSEQ.out (fun h k => walksK_t h k) (fun W l o o' h1 h2 h3 h4 => walksK_b (w := W2) W l o o' h1 h2 h3 h4) hb2' (fun _ => rfl)
    (fun pre W => ∃ Aq cq, W.heap[w.heap.size]? = some (.cells #[.slice Aq (n + pre.length) cq] 96 (0, 0)) ∧ W.ownsRow w0.heap.size 9 1 (.slice Aq (n + pre.length) cq) (n + pre.length) (strs (l0 ++ pre.map ub)) ∧ Below w0.heap.size w0 W)
    (fun _ _ _ => False)
    ?hI ?hIx ⟨A, c, g1, by simpa using hr2, hb2⟩
    (fun x => { tmps := #[.slice A n c, .func (.func gf) #[] lb, .pointer (some ⟨w.heap.size, 0, none⟩), undef, .slice none 0 0, encStr x, .func (.func gf) #[] lb, encStr x, undef, undef, undef, undef, undef], defers := [] }) ?assign ?body ?done ?stop
  case hI =>
    rintro pre A1 C row ⟨Aq, cq, h0, h1, h2⟩ hg hr
    refine ⟨Aq, cq, one_grown h0 hg (fun e => ?_), h1.kept hg ?_, h2.grown hg h2.size (fun k e => ?_)⟩
    · have := (hr _ e.symm).1; omega
    · cases hv : (Value.slice Aq (n + pre.length) cq).ownBlock with
      | none => exact .inl rfl
      | some k =>
        refine .inr fun e => ?_
        obtain ⟨_, cur, hcur⟩ := own_row h1 hv
        obtain ⟨_, o, ho, hc⟩ := hr _ e.symm
        rw [hcur] at ho; cases ho; cases hc
    · have := (hr _ e).1; omega
  case hIx => rintro c pre A1 C row hf _ _; exact hf
  case stop => rintro D c pre W hD hS hf hK; exact hf.elim
  case assign =>
    intro l x W K hK
    have HKK := Lib.hid hK
    clear hK
    simp only [enc_ub]
    gi_wp2
    exact HKK.out
  case body =>
    rintro l pre y W ⟨Aq, cq, h0, h1, h2⟩ hlen
    have c0 := cell_of_one h0
    have f0 := free_of_one h0
    have H0 := Lib.hid h0; have H1 := Lib.hid h1; have H2 := Lib.hid h2
    have hzW : w.heap.size < W.heap.size := (Array.getElem?_eq_some_iff.1 h0).1
    have zW0 := h2.size
    obtain ⟨i0, hi, hz0, hz1', hz2'⟩ := info_parts infoStr
    have Hi := Lib.hid hi; have Hz0 := Lib.hid hz0; have Hz1 := Lib.hid hz1'; have Hz2 := Lib.hid hz2'
    clear h0 h1 h2 g1 hb2 hb2' hr2 hi hz0 hz1' hz2'
    simp only [enc_ub]
    gi_wp2_with (gi_at_builtin; refine halt_ ?_)
    refine unhalt ?_
    refine wpListIn_append_sl (base := w0.heap.size) (size := 1) rfl (.tmp 8) (.tmp 10) 96 rfl 9 i0 _ 16 Tryz.underlying96 Hi.out Hz0.out Hz1.out Hz2.out rfl (by decide) (.slice Aq (n + pre.length) cq) (n + pre.length) (strs (l0 ++ pre.map ub)) rfl ?own (W.heap.size + 1) _ 1 _ [.string (ub y)] rfl ?nw (by simp [Value.oneCell']) ?l1 ?l2 ?l3 ?_
    case own => exact H1.out.kept (World.grownBy_alloc W _ none) (by cases hv : (Value.slice Aq (n + pre.length) cq).ownBlock with | none => exact .inl rfl | some k => exact .inr (by simp))
    case nw => exact ⟨rfl, fun _ => ⟨W.heap.size, 0, rfl, Nat.lt_succ_self _, fun j u hu => by have := new_cell W 9 (ub y) j u hu; rwa [Addr.add_lit] at this⟩⟩
    case l1 => unfold maxLen; omega
    case l2 => omega
    case l3 => simp; omega
    intro A4 c4 w4 ho4 hg4 hc41 hc42
    have HO4 : Hid (w4.ownsRow w0.heap.size 9 1 (.slice A4 (n + (pre.length + 1)) c4) (n + (pre.length + 1)) (strs (l0 ++ (pre ++ [y]).map ub))) := by
      show World.ownsRow _ _ _ _ _ _ _
      have e : strs (l0 ++ (pre ++ [y]).map ub) = strs (l0 ++ pre.map ub) ++ [.string (ub y)] := by simp [strs]
      rw [e]; exact ho4
    have HGE : Hid (∀ k, (Value.slice Aq (n + pre.length) cq).ownBlock = some k → w0.heap.size ≤ k ∧ ∃ cur, W.heap[k]? = some (.cells cur 9 (0, 0))) := fun k hk => own_row H1.out hk
    have HNE : Hid (∀ k, (Value.slice Aq (n + pre.length) cq).ownBlock = some k → k ≠ w.heap.size) := fun k hk e => by
      obtain ⟨_, cur, hc⟩ := HGE.out k hk
      rw [e, H0.out] at hc
      cases hc
    have HX4 : Hid (w4.heap[w.heap.size]? = some (.cells #[.slice Aq (n + pre.length) cq] 96 (0, 0))) := one_grown ((Below.heap_alloc W _ _ hzW).trans H0.out) hg4 (fun e => HNE.out _ e.symm rfl)
    have c4' := cell_of_one HX4.out
    have f4' := free_of_one HX4.out
    have HB4 : Hid (Below w0.heap.size w0 w4) := (H2.out.alloc zW0 _).grown hg4 (by simp; omega) (fun k hk => (HGE.out k hk).1)
    have HKO : Hid (KeepsOthers W (w4.setCell ⟨w.heap.size, 0, none⟩ (.slice A4 (n + (pre.length + 1)) c4))) := ((KeepsOthers.alloc W _).trans (KeepsOthers.of_grownBy hg4 (fun j o hj ho => by
      obtain ⟨_, cur, hc⟩ := HGE.out j hj
      rw [(Below.heap_alloc W _ j (Array.getElem?_eq_some_iff.1 hc).1).trans hc] at ho
      cases ho; rfl))).trans (KeepsOthers.setCell _ _ _)
    have HO5 : Hid ((w4.setCell ⟨w.heap.size, 0, none⟩ (.slice A4 (n + (pre.length + 1)) c4)).ownsRow w0.heap.size 9 1 (.slice A4 (n + (pre.length + 1)) c4) (n + (pre.length + 1)) (strs (l0 ++ (pre ++ [y]).map ub))) := ownsRow_other_box HO4.out HX4.out _
    have hea : n + pre.length + 1 = n + (pre.length + 1) := by omega
    clear ho4 hg4 c0 f0
    gi_wp2
    refine ⟨HKO.out, HKO.out.walks, A4, c4, ?_, ?_, ?_⟩
    · rw [List.length_append]; exact one_setCell HX4.out
    · rw [List.length_append]; exact HO5.out
    · exact HB4.out.setCell (p := ⟨w.heap.size, 0, none⟩) zbw _
  case done =>
    rintro D xs W hD hS ⟨Aq, cq, h0, h1, h2⟩ hK
    have c0 := cell_of_one h0
    have H1 := Lib.hid h1; have HK := Lib.hid hK; have H2 := Lib.hid h2; have HS := Lib.hid hS
    clear h0 h1 h2 hK hS g1 hb2 hb2' hr2
    gi_wp2
    refine ⟨by simp, .inl ⟨_, _, rfl, run_takeDeferred HK.out, ?_⟩⟩
    refine ⟨_, results_tmp rfl _ _ _, Aq, cq, xs, rfl, HS.out, ?_, ?_⟩
    · exact H1.out.kept (grownBy_putObj' _ _ _) (by
        cases hv : (Value.slice Aq (n + xs.length) cq).ownBlock with
        | none => exact .inl rfl
        | some k =>
          refine .inr fun e => ?_
          cases e
          obtain ⟨_, cur, hc⟩ := own_row H1.out hv
          rw [HK.out] at hc; cases hc)
    · exact H2.out.grown (grownBy_putObj' _ _ _) H2.out.size (fun k e => by cases e; omega)

theorem keysF_any (b : Nat) (w : World) : Calls Tryz.prog 89 #[.map (some b)] w fun e w' => e = .returned (.func (.func 128) #[] #[.pointer (some ⟨w.heap.size, 0, none⟩)]) ∧ w' = w.alloc (.cells #[.map (some b)] 124) := by
  go_enter Tryz.func89, Tryz.ntmps89
  go_wp2_with fail
  go_ret
  exact ⟨rfl, rfl⟩
theorem keysF_seq {Bm b N : Nat} {g : ByteArray → Option Value} {w : World} (hM : Rm w Tryz.prog 9 b N g) (hc : w.cell? ⟨Bm, 0, none⟩ = some (.map (some b))) (hB : Bm < w.heap.size) :
    ∃ S Sp, SeqStops Fence.wide 5 Tryz.prog 128 #[.pointer (some ⟨Bm, 0, none⟩)] encStr S Sp N w ∧ ∀ ss, S ss → KeysR g N (ss.map ub) := by
  obtain ⟨D, h1, h2, h3⟩ := hM.keys Tryz.underlying9
  refine ⟨_, _, fun l J Jx W hW hJ hJx hY h0 => AnyZ.keys_stops (ρ := Tryz.keysF_ren) { Tryz.keysF with } Fence.wide 5 trivial rfl (by omega) Bm b N D w hB hc h1 l J Jx W hW hJ hJx (fun pre x W1 hj hl => hY pre x W1 hj (Nat.lt_of_lt_of_le hl h2)) h0, h3⟩
theorem enterF : ∀ args w, (callFunc 128 args).run Tryz.prog w = .ok (.enter 128 args) w := enters_of Tryz.func128 (by kernel_rfl) rfl
def ApsFE (g : ByteArray → Option Value) (N n : Nat) (l0 : List ByteArray) (w0 : World) (e : Ending) (w' : World) : Prop :=
  ∃ A c ks, e = .returned (.slice A (n + ks.length) c) ∧ KeysR g N ks ∧ w'.ownsRow w0.heap.size 9 1 (.slice A (n + ks.length) c) (n + ks.length) (strs (l0 ++ ks)) ∧ Below w0.heap.size w0 w'
theorem apsF_any (Bm b N : Nat) (g : ByteArray → Option Value) (A : Option Addr) (n c : Nat) (l0 : List ByteArray) (w0 w : World) (hM : Rm w Tryz.prog 9 b N g) (hc : w.cell? ⟨Bm, 0, none⟩ = some (.map (some b))) (hB : Bm < w.heap.size)
    (hrow : w.ownsRow w0.heap.size 9 1 (.slice A n c) n (strs l0)) (hbw : Below w0.heap.size w0 w) (hn : n + N ≤ 1000000) :
    Calls Tryz.prog 90 #[.slice A n c, .func (.func 128) #[] #[.pointer (some ⟨Bm, 0, none⟩)]] w (ApsFE g N n l0 w0) := by
  obtain ⟨S, Sp, h1, h2⟩ := keysF_seq hM hc hB
  refine (appSeq_any _ _ enterF S Sp N A n c l0 w0 w hrow hbw hn h1).mono ?_
  rintro e w' ⟨A', c', ss, rfl, hS, hr, hb⟩
  exact ⟨A', c', ss.map ub, by rw [List.length_map], h2 ss hS, by rw [List.length_map]; exact hr, hb⟩

theorem keysB_any (b : Nat) (w : World) : Calls Tryz.prog 91 #[.map (some b)] w fun e w' => e = .returned (.func (.func 129) #[] #[.pointer (some ⟨w.heap.size, 0, none⟩)]) ∧ w' = w.alloc (.cells #[.map (some b)] 123) := by
  go_enter Tryz.func91, Tryz.ntmps91
  go_wp2_with fail
  go_ret
  exact ⟨rfl, rfl⟩
theorem keysB_seq {Bm b N : Nat} {g : ByteArray → Option Value} {w : World} (hM : Rm w Tryz.prog 9 b N g) (hc : w.cell? ⟨Bm, 0, none⟩ = some (.map (some b))) (hB : Bm < w.heap.size) :
    ∃ S Sp, SeqStops Fence.wide 5 Tryz.prog 129 #[.pointer (some ⟨Bm, 0, none⟩)] encStr S Sp N w ∧ ∀ ss, S ss → KeysR g N (ss.map ub) := by
  obtain ⟨D, h1, h2, h3⟩ := hM.keys Tryz.underlying9
  refine ⟨_, _, fun l J Jx W hW hJ hJx hY h0 => AnyZ.keys_stops (ρ := Tryz.keysB_ren) { Tryz.keysB with } Fence.wide 5 trivial rfl (by omega) Bm b N D w hB hc h1 l J Jx W hW hJ hJx (fun pre x W1 hj hl => hY pre x W1 hj (Nat.lt_of_lt_of_le hl h2)) h0, h3⟩
theorem enterB : ∀ args w, (callFunc 129 args).run Tryz.prog w = .ok (.enter 129 args) w := enters_of Tryz.func129 (by kernel_rfl) rfl
def ApsBE (g : ByteArray → Option Value) (N n : Nat) (l0 : List ByteArray) (w0 : World) (e : Ending) (w' : World) : Prop :=
  ∃ A c ks, e = .returned (.slice A (n + ks.length) c) ∧ KeysR g N ks ∧ w'.ownsRow w0.heap.size 9 1 (.slice A (n + ks.length) c) (n + ks.length) (strs (l0 ++ ks)) ∧ Below w0.heap.size w0 w'
theorem apsB_any (Bm b N : Nat) (g : ByteArray → Option Value) (A : Option Addr) (n c : Nat) (l0 : List ByteArray) (w0 w : World) (hM : Rm w Tryz.prog 9 b N g) (hc : w.cell? ⟨Bm, 0, none⟩ = some (.map (some b))) (hB : Bm < w.heap.size)
    (hrow : w.ownsRow w0.heap.size 9 1 (.slice A n c) n (strs l0)) (hbw : Below w0.heap.size w0 w) (hn : n + N ≤ 1000000) :
    Calls Tryz.prog 90 #[.slice A n c, .func (.func 129) #[] #[.pointer (some ⟨Bm, 0, none⟩)]] w (ApsBE g N n l0 w0) := by
  obtain ⟨S, Sp, h1, h2⟩ := keysB_seq hM hc hB
  refine (appSeq_any _ _ enterB S Sp N A n c l0 w0 w hrow hbw hn h1).mono ?_
  rintro e w' ⟨A', c', ss, rfl, hS, hr, hb⟩
  exact ⟨A', c', ss.map ub, by rw [List.length_map], h2 ss hS, by rw [List.length_map]; exact hr, hb⟩

def CollFE (g : ByteArray → Option Value) (N : Nat) (w : World) (e : Ending) (w' : World) : Prop :=
  ∃ A c ks, e = .returned (.slice A ks.length c) ∧ KeysR g N ks ∧ w'.ownsRow w.heap.size 9 1 (.slice A ks.length c) ks.length (strs ks) ∧ Below w.heap.size w w'
theorem collF_any (Bm b N : Nat) (g : ByteArray → Option Value) (w : World) (hM : Rm w Tryz.prog 9 b N g) (hc : w.cell? ⟨Bm, 0, none⟩ = some (.map (some b))) (hB : Bm < w.heap.size) (hn : N ≤ 1000000) :
    Calls Tryz.prog 88 #[.func (.func 128) #[] #[.pointer (some ⟨Bm, 0, none⟩)]] w (CollFE g N w) := by
  have HA := Lib.hid (apsF_any Bm b N g none 0 0 [] w w hM hc hB (World.ownsRow_nil _ _ _ _) (Below.refl _ _) (by omega))
  clear hM
  go_enter Tryz.func88, Tryz.ntmps88
  go_wp2_with (go_at_call 90; refine HA.out.mono ?_; rintro e w1 ⟨A, c, ks, rfl, h⟩; rw [Nat.zero_add, List.nil_append] at h; have HH := Lib.hid h; clear h)
  go_ret
  exact ⟨A, c, ks, rfl, HH.out⟩
end Go.Proofs.YtmdhlkkekidknaaGreatDoor

namespace Go.Proofs.YtmdhlkkekidknaaGreatDoor
open Go.RowKit

structure Fgr (w : World) (base : Nat) (e : TypeId) (f : ByteArray → Value) (L : ByteArray → List Fl) : Prop where
  own : ∀ i, w.ownsRow base e 2 (f i) (L i).length (flat flC (L i))
  apart : ∀ i j k, (f i).ownBlock = some k → (f j).ownBlock = some k → i = j
section
variable {w w' : World} {base : Nat} {e : TypeId} {f : ByteArray → Value} {L : ByteArray → List Fl}
theorem Fgr.start (w : World) (base : Nat) (e : TypeId) : Fgr w base e (fun _ => .slice none 0 0) (fun _ => []) :=
  ⟨fun _ => World.ownsRow_nil w base e 2, fun i j k h => by cases h⟩
theorem Fgr.kept {row : Option Nat} (h : Fgr w base e f L) (hg : w.grownBy w' row) (hr : ∀ i, (f i).ownBlock = none ∨ (f i).ownBlock ≠ row) : Fgr w' base e f L :=
  ⟨fun i => (h.own i).kept hg (hr i), h.apart⟩
theorem Fgr.below (h : Fgr w base e f L) (hb : Below w.heap.size w w') : Fgr w' base e f L :=
  h.kept (row := none) ⟨hb.os, hb.tape, hb.output, hb.size, fun k hk _ => hb.block k hk⟩ (fun i => by cases hv : (f i).ownBlock with | none => exact .inl rfl | some k => exact .inr (by simp))
theorem Fgr.other {b : Nat} (h : Fgr w base e f L) (hg : w.grownBy w' (some b)) (hb : b < base) : Fgr w' base e f L :=
  h.kept hg (fun i => by
    cases hv : (f i).ownBlock with
    | none => exact .inl rfl
    | some k => exact .inr (fun e => by have := ((h.own i).lt k hv).1; cases e; omega))
theorem Fgr.app (h : Fgr w base e f L) (i : ByteArray) {x : Fl} {g cap : Nat} (ho : w'.ownsRow base e 2 (.slice (some ⟨g, 0, none⟩) ((L i).length + 1) cap) ((L i).length + 1) (flat flC (L i) ++ flC x)) (hg : w.grownBy w' (f i).ownBlock)
    (hat : (f i).ownBlock = some g ∨ g = w.heap.size) : Fgr w' base e (fun j => if j = i then .slice (some ⟨g, 0, none⟩) ((L i).length + 1) cap else f j) (fun j => if j = i then L i ++ [x] else L j) := by
  have hlt : ∀ j k, (f j).ownBlock = some k → k < w.heap.size := fun j k hk => ((h.own j).lt k hk).2
  refine ⟨fun j => ?_, fun j l k hj hl => ?_⟩
  · by_cases hji : j = i
    · simp only [hji, if_true]
      rw [List.length_append]
      have : flat flC (L i ++ [x]) = flat flC (L i) ++ flC x := by rw [flat_append]; simp [flat]
      rw [this]
      exact ho
    · simp only [hji, if_false]
      refine (h.own j).kept hg ?_
      cases hv : (f j).ownBlock with
      | none => exact .inl rfl
      | some k => exact .inr (fun e' => hji (h.apart j i k hv e'.symm))
  · have new : ∀ j, j ≠ i → (f j).ownBlock = some g → False := fun j hj hb => by
      rcases hat with hat | hat
      · exact hj (h.apart j i g hb hat)
      · have := hlt j g hb; omega
    by_cases hji : j = i
    · by_cases hli : l = i
      · rw [hji, hli]
      · simp only [hji, if_true, hli, if_false] at hj hl
        have : g = k := by simpa [Value.ownBlock] using hj
        exact (new l hli (this ▸ hl)).elim
    · by_cases hli : l = i
      · simp only [hji, if_false, hli, if_true] at hj hl
        have : g = k := by simpa [Value.ownBlock] using hl
        exact (new j hji (this ▸ hj)).elim
      · simp only [hji, hli, if_false] at hj hl
        exact h.apart j l k hj hl
end
theorem inD_snoc (l : List Fl) (f : Fl) (s : ByteArray) : inD (l ++ [f]) s = inD l s ++ (if deN f.1 = true ∧ fsN f.1 = s then [(rsN f.1, f.2)] else []) := by
  unfold inD
  rw [List.filter_append, List.map_append]
  congr 1
  by_cases h : deN f.1 = true ∧ fsN f.1 = s
  · rw [if_pos h, List.filter_cons_of_pos (by simp [h.1, h.2])]; rfl
  · rw [if_neg h, List.filter_cons_of_neg (by simpa using h)]; rfl
theorem look9_snoc {l : List Fl} {f : Fl} (hn : f.1 ∉ l.map Prod.fst) (s : ByteArray) : lookF9 (l ++ [f]) s = if f.1 = s then some f.2 else lookF9 l s := by
  unfold lookF9
  rw [List.find?_append]
  by_cases h : f.1 = s
  · rw [if_pos h]
    have : l.find? (fun f => decide (f.1 = s)) = none := by
      rw [List.find?_eq_none]
      intro x hx he
      exact hn (by rw [h, ← (of_decide_eq_true he)]; exact List.mem_map_of_mem hx)
    rw [this]; simp [h]
  · rw [if_neg h]
    cases l.find? (fun f => decide (f.1 = s)) with
    | none => simp [h]
    | some x => simp
def nilS : Value := .slice none 0 0
def fileV (f : Fl) : Value := .agg #[.string f.1, .string f.2]
structure StM (w : World) (bb bf base N : Nat) (gb gf : ByteArray → Option Value) (l : List Fl) : Prop where
  b : Rm w Tryz.prog 9 bb N gb
  f : Rm w Tryz.prog 9 bf N gf
  rows : Fgr w base 68 (fun s => (gb s).getD nilS) (inD l)
  gbs : ∀ s, (gb s).isSome = true ↔ inD l s ≠ []
  gfs : ∀ s, gf s = if deN s = true then none else (lookF9 l s).map (fun d => fileV (s, d))
section
variable {w w' : World} {bb bf base N : Nat} {gb gf : ByteArray → Option Value} {l : List Fl}
theorem StM.below (h : StM w bb bf base N gb gf l) (hb : Below w.heap.size w w') : StM w' bb bf base N gb gf l :=
  ⟨h.b.below hb h.b.lt, h.f.below hb h.f.lt, h.rows.below hb, h.gbs, h.gfs⟩
theorem StM.alloc (h : StM w bb bf base N gb gf l) (o : Obj) : StM (w.alloc o) bb bf base N gb gf l := h.below ((Below.refl _ w).alloc (Nat.le_refl _) o)
theorem StM.start (w : World) (base : Nat) : StM ((w.alloc (.map #[] 0)).alloc (.map #[] 0)) w.heap.size (w.heap.size + 1) base 0 (fun _ => none) (fun _ => none) [] := by
  refine ⟨(Rm.made w Tryz.prog _).alloc _, ?_, Fgr.start _ _ _, fun s => by simp [inD], fun s => by simp [lookF9]⟩
  have := Rm.made (w.alloc (.map #[] 0)) Tryz.prog 9
  rw [World.size_alloc] at this
  exact this
theorem StM.file (h : StM w bb bf base N gb gf l) (hne : bb ≠ bf) (hbf : bf < base) {f : Fl} (hd : deN f.1 = false) (hn : f.1 ∉ l.map Prod.fst) (hr : Rm w' Tryz.prog 9 bf (N + 1) (upd gf f.1 (fileV f))) (hg : w.grownBy w' (some bf)) :
    StM w' bb bf base (N + 1) gb (upd gf f.1 (fileV f)) (l ++ [f]) := by
  have e : inD (l ++ [f]) = inD l := by
    funext s
    rw [inD_snoc, if_neg (by rw [hd]; simp), List.append_nil]
  refine ⟨(h.b.kept hg (fun e => hne (Option.some.inj e))).more (by omega), hr, by rw [e]; exact h.rows.other hg hbf, fun s => by rw [e]; exact h.gbs s, fun s => ?_⟩
  unfold upd
  rw [look9_snoc hn]
  by_cases hs : s = f.1
  · subst hs
    rw [if_pos rfl, hd, if_pos rfl]; rfl
  · rw [if_neg hs, if_neg (show ¬ f.1 = s from fun e => hs e.symm)]
    exact h.gfs s
theorem StM.dir {w1 : World} (h : StM w bb bf base N gb gf l) (hlt : bb < base ∧ bf < base ∧ bb ≠ bf) {f : Fl} (hd : deN f.1 = true) (hn : f.1 ∉ l.map Prod.fst) {g cap : Nat}
    (ho : w1.ownsRow base 68 2 (.slice (some ⟨g, 0, none⟩) ((inD l (fsN f.1)).length + 1) cap) ((inD l (fsN f.1)).length + 1) (flat flC (inD l (fsN f.1)) ++ flC (rsN f.1, f.2))) (hg : w.grownBy w1 ((gb (fsN f.1)).getD nilS).ownBlock)
    (hat : ((gb (fsN f.1)).getD nilS).ownBlock = some g ∨ g = w.heap.size)
    (hr : Rm w' Tryz.prog 9 bb (N + 1) (upd gb (fsN f.1) (.slice (some ⟨g, 0, none⟩) ((inD l (fsN f.1)).length + 1) cap))) (hg2 : w1.grownBy w' (some bb)) :
    StM w' bb bf base (N + 1) (upd gb (fsN f.1) (.slice (some ⟨g, 0, none⟩) ((inD l (fsN f.1)).length + 1) cap)) gf (l ++ [f]) := by
  have hne : ∀ b, b < base → some b ≠ ((gb (fsN f.1)).getD nilS).ownBlock := fun b hb e => by have := ((h.rows.own (fsN f.1)).lt b e.symm).1; omega
  have e1 : (fun s => (upd gb (fsN f.1) (.slice (some ⟨g, 0, none⟩) ((inD l (fsN f.1)).length + 1) cap) s).getD nilS) = fun s => if s = fsN f.1 then .slice (some ⟨g, 0, none⟩) ((inD l (fsN f.1)).length + 1) cap else (gb s).getD nilS := by
    funext s
    unfold upd
    by_cases hs : s = fsN f.1
    · rw [if_pos hs, if_pos hs]; rfl
    · rw [if_neg hs, if_neg hs]
  have e2 : inD (l ++ [f]) = fun s => if s = fsN f.1 then inD l (fsN f.1) ++ [(rsN f.1, f.2)] else inD l s := by
    funext s
    rw [inD_snoc]
    by_cases hs : s = fsN f.1
    · subst hs; rw [if_pos ⟨hd, rfl⟩, if_pos rfl]
    · rw [if_neg (fun e => hs e.2.symm), if_neg hs, List.append_nil]
  refine ⟨hr, ((h.f.kept hg (hne bf hlt.2.1)).kept hg2 (fun e => hlt.2.2 (by cases e; rfl))).more (by omega), ?_, fun s => ?_, fun s => ?_⟩
  · rw [e1, e2]
    exact (h.rows.app (fsN f.1) ho hg hat).other hg2 hlt.1
  · rw [e2]
    unfold upd
    by_cases hs : s = fsN f.1
    · simp [hs]
    · simp only [if_neg hs]; exact h.gbs s
  · rw [look9_snoc hn]
    by_cases hs : f.1 = s
    · subst hs; rw [h.gfs, if_pos hd, if_pos hd]
    · rw [if_neg hs]; exact h.gfs s
end
theorem names_eq {gb gf : ByteArray → Option Value} {l : List Fl} (hl : OkL l) (h1 : ∀ s, (gb s).isSome = true ↔ inD l s ≠ []) (h2 : ∀ s, gf s = if deN s = true then none else (lookF9 l s).map (fun d => fileV (s, d))) {N M : Nat} {ks qs : List ByteArray} (hk : KeysR gf N ks) (hq : KeysR gb M qs) :
    srtB (ks ++ qs) = nmsP l ∧ ∀ n ∈ nmsP l, deN n = false := by
  have hfl : ∀ x, x ∈ ks ↔ deN x = false ∧ ∃ d, (x, d) ∈ l := fun x => by
    rw [hk.mem, h2]
    cases hd : deN x with
    | true => simp
    | false =>
      simp only [Bool.false_eq_true, if_false, Option.isSome_map, true_and]
      rw [Option.isSome_iff_exists]
      constructor
      · rintro ⟨d, h⟩; exact ⟨d, (look9_some hl.nod).1 h⟩
      · rintro ⟨d, h⟩; exact ⟨d, (look9_some hl.nod).2 h⟩
  have hdr : ∀ x, x ∈ qs ↔ ∃ g ∈ l, deN g.1 = true ∧ fsN g.1 = x := fun x => by
    rw [hq.mem, h1]
    constructor
    · intro h
      obtain ⟨f, hf⟩ := List.exists_mem_of_ne_nil _ h
      obtain ⟨g, hg, a, b, _⟩ := mem_inD.1 hf
      exact ⟨g, hg, a, b⟩
    · rintro ⟨g, hg, a, b⟩ e
      have : (rsN g.1, g.2) ∈ inD l x := mem_inD.2 ⟨g, hg, a, b, rfl⟩
      rw [e] at this; cases this
  have hdis : ∀ x, x ∈ ks → x ∉ qs := fun x hx hx' => by
    obtain ⟨_, d, hd⟩ := (hfl x).1 hx
    obtain ⟨g, hg, a, b⟩ := (hdr x).1 hx'
    have h3 := hl.nob _ hd g hg
    rw [Bool.eq_false_iff] at h3
    refine h3 ((belB_iff _ _).2 ⟨bl (rsN g.1), ?_⟩)
    rw [cut_deep a, b]
  have hno : ∀ n ∈ nmsP l, deN n = false := fun n hn => by
    obtain ⟨f, _, rfl⟩ := nms_mem.1 hn
    exact (cut_no (fsN_nosl _)).2
  refine ⟨asc_ext (srtB_asc (List.nodup_append.2 ⟨hk.nod, hq.nod, fun a ha b hb e => hdis a ha (by rw [e]; exact hb)⟩)) (nms_asc l) (fun x => ?_), hno⟩
  rw [srtB_mem, List.mem_append, hfl, hdr, nms_mem]
  constructor
  · rintro (⟨h, d, hd⟩ | ⟨g, hg, _, h⟩)
    · exact ⟨_, hd, (cut_flat h).symm⟩
    · exact ⟨g, hg, h.symm⟩
  · rintro ⟨f, hf, rfl⟩
    cases hd : deN f.1 with
    | false => exact .inl ⟨(cut_no (fsN_nosl _)).2, f.2, by rw [cut_flat hd]; exact hf⟩
    | true => exact .inr ⟨f, hf, hd, rfl⟩
end Go.Proofs.YtmdhlkkekidknaaGreatDoor
