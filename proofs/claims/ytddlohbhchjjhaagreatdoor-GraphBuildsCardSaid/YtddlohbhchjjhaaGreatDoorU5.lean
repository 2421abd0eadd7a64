/-
  Lemmas: graph.valid. graph.find by dependences, and graph.Deps. slices.Collect of the words of a text. The reader of build files: its state, and its methods next, skip, kind, name, end. The order of a graph, in plain Lean: again and again the first target that is not placed and whose dependences are.
-/
import Derived.IntWalk
import Derived.Test.YtddlohbhchjjhaaGreatDoorU4

namespace Go.Proofs.YtddlohbhchjjhaaGreatDoor
open Go.RowKit Go.Maps

def kindOf (ts : List Tg) (d : ByteArray) : Int := match findT ts d with
  | none => 0
  | some t => t.kind
structure TOk (ts : List Tg) (t : Tg) : Prop where
  lab : labB t.lab = true
  kind : t.kind = 1 ∨ t.kind = 2
  few : t.deps.length ≤ 20
  dep : ∀ d ∈ t.deps, kindOf ts d = 1
  nod : t.deps.Nodup
  vis : visE t.vis = 0
structure Vld (ts : List Tg) : Prop where
  few : ts.length ≤ 100
  all : ∀ t ∈ ts, TOk ts t
  asc : Asc (ts.map Tg.lab)
  free : ∀ s, ¬ Rch (nxT ts) s s
def Upto (ts : List Tg) (k : Nat) : Prop := ∀ j t, j < k → ts[j]? = some t → TOk ts t ∧ ∀ p, 0 < j → ts[j - 1]? = some p → less p.lab t.lab = true
theorem Upto.start (ts : List Tg) : Upto ts 0 := fun j t h => absurd h (by omega)
theorem Upto.step {ts : List Tg} {k : Nat} {t : Tg} (h : Upto ts k) (ht : ts[k]? = some t) (h1 : TOk ts t) (h2 : ∀ p, 0 < k → ts[k - 1]? = some p → less p.lab t.lab = true) : Upto ts (k + 1) := fun j x hj hx => by
  by_cases e : j = k
  · subst e; rw [ht] at hx; cases hx; exact ⟨h1, h2⟩
  · exact h j x (by omega) hx
theorem asc_of_next : ∀ (l : List ByteArray), (∀ j a b, l[j]? = some a → l[j + 1]? = some b → less a b = true) → Asc l
  | [], _ => List.Pairwise.nil
  | [a], _ => List.pairwise_singleton _ _
  | a :: b :: l, h => by
    have ih := asc_of_next (b :: l) (fun j x y hx hy => h (j + 1) x y (by simpa using hx) (by simpa using hy))
    have hab := h 0 a b rfl rfl
    refine List.pairwise_cons.2 ⟨fun x hx => ?_, ih⟩
    rcases List.mem_cons.1 hx with rfl | hx
    · exact hab
    · exact lessB_trans hab ((List.pairwise_cons.1 ih).1 x hx)
theorem Upto.vld {ts : List Tg} (h : Upto ts ts.length) (hf : ts.length ≤ 100) (hc : ∀ s, ¬ Rch (nxT ts) s s) : Vld ts := by
  refine ⟨hf, fun t ht => ?_, asc_of_next _ (fun j a b ha hb => ?_), hc⟩
  · obtain ⟨j, hj, e⟩ := List.getElem_of_mem ht
    exact (h j t hj (by rw [← e]; exact List.getElem?_eq_getElem _)).1
  · rw [List.getElem?_map] at ha hb
    obtain ⟨p, hp, rfl⟩ := Option.map_eq_some_iff.1 ha
    obtain ⟨t, ht, rfl⟩ := Option.map_eq_some_iff.1 hb
    exact (h (j + 1) t (List.getElem?_eq_some_iff.1 ht).1 ht).2 p (by omega) (by simpa using hp)
theorem Vld.next {ts : List Tg} (h : Vld ts) {k : Nat} {p t : Tg} (hk : 0 < k) (hp : ts[k - 1]? = some p) (ht : ts[k]? = some t) : less p.lab t.lab = true := by
  have h1 := List.getElem?_eq_some_iff.1 hp
  have h2 := List.getElem?_eq_some_iff.1 ht
  have := List.pairwise_iff_getElem.1 h.asc (k - 1) k (by simpa using h1.1) (by simpa using h2.1) (by omega)
  simpa [h1.2, h2.2] using this
theorem Vld.at_ {ts : List Tg} (h : Vld ts) {k : Nat} {t : Tg} (ht : ts[k]? = some t) : TOk ts t := h.all t (List.mem_of_getElem? ht)
theorem idx_kind (ts : List Tg) (d : ByteArray) : ∃ x0 x2 x3, (idxG ts d).getD (.agg #[.string ⟨#[]⟩, .int .i64 0, .slice none 0 0, .slice none 0 0]) = .agg #[x0, .int .i64 (kindOf ts d), x2, x3] := by
  unfold idxG kindOf
  cases findT ts d with
  | none => exact ⟨_, _, _, rfl⟩
  | some t => exact ⟨_, _, _, rfl⟩
theorem field1 (x0 x2 x3 : Value) (k : Int) (w : World) : (Instr.field 35 (.agg #[x0, .int .i64 k, x2, x3]) 1).run Tryz.prog w = .ok (.int .i64 k) w := by
  simp [Instr.field, run_underlying Tryz.underlying35, go_sem, asAgg, Result.andThen]
def VldEnd (ts : List Tg) (w : World) (e : Ending) (w' : World) : Prop := ∃ r : Bool, e = .returned (.bool r) ∧ (r = true ↔ Vld ts) ∧ Below w.heap.size w w'
theorem VldEnd.no {ts : List Tg} {w w' : World} (h : ¬ Vld ts) (hb : Below w.heap.size w w') : VldEnd ts w (.returned (.bool false)) w' := ⟨false, rfl, ⟨(fun e => by cases e), fun e => absurd e h⟩, hb⟩

theorem le_not_less {a b : ByteArray} {le : Bool} (h : (Op.bytesLess a.toList b.toList || a.toList == b.toList) = le) : less b a = !le := by
  rw [less_str, str_dec] at h
  subst h
  by_cases e : a = b
  · subst e; simp [lessB_irrefl]
  · simp only [e, decide_false, Bool.or_false]
    cases h1 : less a b with
    | true => rw [lessB_asymm h1]; rfl
    | false =>
      cases h2 : less b a with
      | true => rfl
      | false => exact absurd (lessB_conn h1 h2) e

set_option maxRecDepth 100000 in
set_option maxHeartbeats 8000000 in
theorem valid_any (A : Option Addr) (n c B : Nat) (ts : List Tg) (w : World) (h0 : Sl w B 4 A n (flat tgC ts)) (hok : ∀ t ∈ ts, TgOk w B t) (hB : B ≤ w.heap.size) (hnc : n ≤ c) (hcm : c ≤ maxLen) :
    Calls Tryz.prog 70 #[.agg #[.slice A n c]] w (VldEnd ts w) := by
  have HTL := Lib.hid (h0.len tgC_len (by omega))
  have H0 := Lib.hid h0; have HOK := Lib.hid hok
  clear h0 hok
  have hnm : n ≤ 9223372036854775807 := by unfold maxLen at hcm; omega
  have HB0 : Hid (Below w.heap.size w (w.alloc (.cells #[.slice A n c] 27))) := (Below.refl _ w).alloc (Nat.le_refl _) _
  go_enter Tryz.func70, Tryz.ntmps70
  by_cases hbig : 100 < n
  · have hF : Hid (¬ Vld ts) := fun h => by have := h.few; rw [HTL.out] at this; omega
    have hlz : (100 : Int) < (n : Int) := by omega
    go_wp2
    go_ret
    exact VldEnd.no hF.out HB0.out
  · have hlz : ¬ (100 : Int) < (n : Int) := by omega
    have HI := Lib.hid (index_any A n c B ts (w.alloc (.cells #[.slice A n c] 27)) (H0.out.below HB0.out hB) (by simp; omega) (by omega) (fun t ht => (HOK.out t ht).ls))
    go_wp2_with (go_at_call 53; refine HI.out.mono ?_; rintro e w1 ⟨rfl, hM, hb1⟩; refine halt_ ?_)
    refine unhalt ?_
    simp only [World.size_alloc] at hM hb1 ⊢
    have HM := Lib.hid hM
    have HB1 : Hid (Below w.heap.size w w1) := HB0.out.trans (hb1.mono (by omega))
    have HG1 : Hid (w1.heap[w.heap.size]? = some (.cells #[.slice A n c] 27 (0, 0))) := (hb1.block _ (by omega)).trans (World.alloc_heap_new w _)
    have x0 := cell_of_one HG1.out
    have hz1 : w.heap.size + 1 < w1.heap.size := HM.out.lt
    clear hM hb1 HI
    go_wp2
    go_loopw [18] (fun i wr => ∃ k : Nat, k ≤ n ∧ i = .int .i64 k ∧ Hid (Upto ts k) ∧ Hid (Below w1.heap.size w1 wr)) (fun i _ => n - (intOf i).toNat)
    case atStart => exact ⟨0, Nat.zero_le _, rfl, Upto.start ts, Below.refl _ _⟩
    case round =>
      obtain ⟨k, hk, rfl, hU, hBel⟩ := hrel
      have HBw : Hid (Below w.heap.size w wr) := HB1.out.trans (hBel.out.mono (by omega))
      have hwz := hBel.out.size
      have HGr : Hid (wr.heap[w.heap.size]? = some (.cells #[.slice A n c] 27 (0, 0))) := (hBel.out.block _ (by omega)).trans HG1.out
      have g0 := cell_of_one HGr.out
      by_cases hlt : k < n
      · obtain ⟨b, off, t, rfl, hbB, ht, y0, y1, y2, y3⟩ := (H0.out.below HBw.out hB).tg hlt
        have HT := Lib.hid ht
        have HTO : Hid (TgOk w B t) := HOK.out t (List.mem_of_getElem? ht)
        have hlz : (k : Int) < (n : Int) := by omega
        obtain ⟨lab, kind, dA, dn, dc, deps, vA, vn, vc, vis⟩ := t
        simp only at y0 y1 y2 y3
        clear ht
        have hk0 : Bk (wr.alloc (.cells #[.string lab, .int .i64 kind, .slice dA dn dc, .slice vA vn vc] 35)) wr.heap.size 35 #[.string lab, .int .i64 kind, .slice dA dn dc, .slice vA vn vc] := Bk.new wr _ _
        have HK0 := Lib.hid hk0
        clear hk0
        have hls : lab.size ≤ maxLen := HTO.out.ls
        have HBa : Hid (Below w1.heap.size w1 (wr.alloc (.cells #[.string lab, .int .i64 kind, .slice dA dn dc, .slice vA vn vc] 35))) := hBel.out.alloc hwz _
        have g0' : (wr.alloc (.cells #[.string lab, .int .i64 kind, .slice dA dn dc, .slice vA vn vc] 35)).cell? ⟨w.heap.size, 0, none⟩ = some (.slice (some ⟨b, off, none⟩) n c) := (HBa.out.cell (p := ⟨w.heap.size, 0, none⟩) (by show w.heap.size < _; omega)).trans x0
        have l0 := HK0.out.cell 0
        simp only [List.getElem?_toArray, List.getElem?_cons_zero] at l0
        have HLF := Lib.hid l0
        have HGF := Lib.hid g0'
        clear l0 g0'
        cases hlab : labB lab with
        | false =>
          have hF : Hid (¬ Vld ts) := fun h => by have := (h.at_ HT.out).lab; rw [hlab] at this; cases this
          have HLAB := Lib.hid hlab
          clear hlab
          go_wp2_with fail
          refine wp_region_stableGD 19 [23, 24, 25, 26, 27, 28, 29, 30, 31, 32, 33, 34, 35, 36, 37, 38, 39, 40, 41] (by kernel_rfl) (by kernel_rfl) (by kernel_rfl) (fun W => Below (wr.alloc (.cells #[.string lab, .int .i64 kind, .slice dA dn dc, .slice vA vn vc] 35)).heap.size (wr.alloc (.cells #[.string lab, .int .i64 kind, .slice dA dn dc, .slice vA vn vc] 35)) W) (fun W W' => Below W.heap.size W W')
            (vPhi [.pointer (some ⟨wr.heap.size, 0, none⟩), .string lab, .bool false, .bool true, .bool true, undef, undef, undef, undef, undef, undef, undef, undef, undef, undef, undef, undef, undef, undef]) (fun W W' h1 h2 => h1.trans (h2.mono h1.size)) (fun _ _ _ _ h _ => h) (Below.refl _ _).drew ?stepfalse ?tailfalse
          case stepfalse =>
            intro i o vs W hi ho hv hR hphi
            obtain ⟨v0, v1, v2, v3, v4, v5, v6, v7, v8, v9, v10, v11, v12, v13, v14, v15, v16, v17, v18, rfl⟩ := list19 hv
            simp only [List.zip, List.zipWith, putAll, Act.put, List.setIfInBounds_toArray, List.set]
            have l0 := (hR.cell (p := ⟨wr.heap.size, 0, none⟩) (by simp)).trans HLF.out
            have l1 := (hR.cell (p := ⟨w.heap.size, 0, none⟩) (by show w.heap.size < _; simp; omega)).trans HGF.out
            match i, hi, ho with
            | 0, _, rfl =>
              exact .inl ⟨rfl, gives_value (v := .pointer (some ⟨wr.heap.size, 0, none⟩)) (w' := W) (by go_simp) ⟨Below.refl _ _, fun u hu => by cases hu; rfl⟩⟩
            | 1, _, rfl =>
              have e0 : v0 = _ := hphi ⟨0, .data⟩ (by simp) rfl v0 rfl _ rfl
              subst e0
              exact .inl ⟨rfl, gives_value (v := .string lab) (w' := W) (by go_simp) ⟨Below.refl _ _, fun u hu => by cases hu; rfl⟩⟩
            | 2, _, rfl =>
              have e1 : v1 = _ := hphi ⟨1, .data⟩ (by simp) rfl v1 rfl _ rfl
              subst e1
              refine .inl ⟨rfl, gives_call (f := 79) (args := #[.string lab]) (by go_simp) ((label_any lab W hls).mono ?_)⟩
              rintro e W' ⟨rfl, hb⟩
              exact ⟨_, rfl, hb, fun u hu => by cases hu; rw [HLAB.out]⟩
            | 3, _, rfl =>
              have e2 : v2 = _ := hphi ⟨2, .data⟩ (by simp) rfl v2 rfl _ rfl
              subst e2
              exact .inl ⟨rfl, gives_value (v := .bool true) (w' := W) (by go_simp) ⟨Below.refl _ _, fun u hu => by cases hu; rfl⟩⟩
            | 4, _, rfl =>
              have e3 : v3 = _ := hphi ⟨3, .data⟩ (by simp) rfl v3 rfl _ rfl
              subst e3
              exact .inl ⟨rfl, gives_value (v := .bool true) (w' := W) (by go_simp) ⟨Below.refl _ _, fun u hu => by cases hu; rfl⟩⟩
            | 5, _, rfl =>
              have e4 : v4 = _ := hphi ⟨4, .guard⟩ (by simp) rfl v4 rfl _ rfl
              subst e4
              exact .inr ⟨rfl, Below.refl _ _, fun u hu => by cases hu; rfl⟩
            | 6, _, rfl =>
              have e5 : v5 = _ := hphi ⟨5, .data⟩ (by simp) rfl v5 rfl _ rfl
              have e4 : v4 = _ := hphi ⟨4, .guard⟩ (by simp) rfl v4 rfl _ rfl
              subst e4 e5
              exact .inr ⟨rfl, Below.refl _ _, fun u hu => by cases hu; rfl⟩
            | 7, _, rfl =>
              have e6 : v6 = _ := hphi ⟨6, .data⟩ (by simp) rfl v6 rfl _ rfl
              have e4 : v4 = _ := hphi ⟨4, .guard⟩ (by simp) rfl v4 rfl _ rfl
              subst e4 e6
              exact .inr ⟨rfl, Below.refl _ _, fun u hu => by cases hu; rfl⟩
            | 8, _, rfl =>
              have e7 : v7 = _ := hphi ⟨7, .guard⟩ (by simp) rfl v7 rfl _ rfl
              subst e7
              exact .inr ⟨rfl, Below.refl _ _, fun u hu => by cases hu; rfl⟩
            | 9, _, rfl =>
              have e8 : v8 = _ := hphi ⟨8, .data⟩ (by simp) rfl v8 rfl _ rfl
              have e7 : v7 = _ := hphi ⟨7, .guard⟩ (by simp) rfl v7 rfl _ rfl
              subst e7 e8
              exact .inr ⟨rfl, Below.refl _ _, fun u hu => by cases hu; rfl⟩
            | 10, _, rfl =>
              have e7 : v7 = _ := hphi ⟨7, .guard⟩ (by simp) rfl v7 rfl _ rfl
              subst e7
              exact .inr ⟨rfl, Below.refl _ _, fun u hu => by cases hu; rfl⟩
            | 11, _, rfl =>
              have e10 : v10 = _ := hphi ⟨10, .data⟩ (by simp) rfl v10 rfl _ rfl
              have e7 : v7 = _ := hphi ⟨7, .guard⟩ (by simp) rfl v7 rfl _ rfl
              subst e7 e10
              exact .inr ⟨rfl, Below.refl _ _, fun u hu => by cases hu; rfl⟩
            | 12, _, rfl =>
              have e7 : v7 = _ := hphi ⟨7, .guard⟩ (by simp) rfl v7 rfl _ rfl
              subst e7
              exact .inr ⟨rfl, Below.refl _ _, fun u hu => by cases hu; rfl⟩
            | 13, _, rfl =>
              have e12 : v12 = _ := hphi ⟨12, .data⟩ (by simp) rfl v12 rfl _ rfl
              have e7 : v7 = _ := hphi ⟨7, .guard⟩ (by simp) rfl v7 rfl _ rfl
              subst e7 e12
              exact .inr ⟨rfl, Below.refl _ _, fun u hu => by cases hu; rfl⟩
            | 14, _, rfl =>
              have e11 : v11 = _ := hphi ⟨11, .data⟩ (by simp) rfl v11 rfl _ rfl
              have e13 : v13 = _ := hphi ⟨13, .data⟩ (by simp) rfl v13 rfl _ rfl
              have e7 : v7 = _ := hphi ⟨7, .guard⟩ (by simp) rfl v7 rfl _ rfl
              subst e7 e11 e13
              exact .inr ⟨rfl, Below.refl _ _, fun u hu => by cases hu; rfl⟩
            | 15, _, rfl =>
              have e14 : v14 = _ := hphi ⟨14, .data⟩ (by simp) rfl v14 rfl _ rfl
              have e7 : v7 = _ := hphi ⟨7, .guard⟩ (by simp) rfl v7 rfl _ rfl
              subst e7 e14
              exact .inr ⟨rfl, Below.refl _ _, fun u hu => by cases hu; rfl⟩
            | 16, _, rfl =>
              have e15 : v15 = _ := hphi ⟨15, .data⟩ (by simp) rfl v15 rfl _ rfl
              have e7 : v7 = _ := hphi ⟨7, .guard⟩ (by simp) rfl v7 rfl _ rfl
              subst e7 e15
              exact .inr ⟨rfl, Below.refl _ _, fun u hu => by cases hu; rfl⟩
            | 17, _, rfl =>
              have e9 : v9 = _ := hphi ⟨9, .data⟩ (by simp) rfl v9 rfl _ rfl
              have e16 : v16 = _ := hphi ⟨16, .data⟩ (by simp) rfl v16 rfl _ rfl
              have e7 : v7 = _ := hphi ⟨7, .guard⟩ (by simp) rfl v7 rfl _ rfl
              subst e7 e9 e16
              exact .inr ⟨rfl, Below.refl _ _, fun u hu => by cases hu; rfl⟩
            | 18, _, rfl =>
              have e7 : v7 = _ := hphi ⟨7, .data⟩ (by simp) rfl v7 rfl _ rfl
              have e17 : v17 = _ := hphi ⟨17, .data⟩ (by simp) rfl v17 rfl _ rfl
              have e4 : v4 = _ := hphi ⟨4, .guard⟩ (by simp) rfl v4 rfl _ rfl
              subst e4 e7 e17
              exact .inr ⟨rfl, Below.refl _ _, fun u hu => by cases hu; rfl⟩
            | i + 19, hi, _ => exact absurd hi (by omega)
          case' tailfalse =>
            intro vs W hv hR hphi
            obtain ⟨v0, v1, v2, v3, v4, v5, v6, v7, v8, v9, v10, v11, v12, v13, v14, v15, v16, v17, v18, rfl⟩ := list19 hv
            simp only [List.zip, List.zipWith, putAll, Act.put, List.setIfInBounds_toArray, List.set, List.drop]
            have e4 : v4 = _ := hphi 4 v4 rfl _ rfl
            have e18 : v18 = _ := hphi 18 v18 rfl _ rfl
            subst e4 e18
            have HBR : Hid (Below w1.heap.size w1 W) := HBa.out.trans (hR.mono HBa.out.size)
            go_wp2
            go_ret
            exact VldEnd.no hF.out (HB1.out.trans (HBR.out.mono (by omega)))
        | true =>
          have HLAB := Lib.hid hlab
          clear hlab
          have hways : (k = 0) ∨ ∃ m, k = m + 1 := by cases k with | zero => exact .inl rfl | succ m => exact .inr ⟨m, rfl⟩
          rcases hways with hk0 | ⟨m, hkm⟩
          case' inl =>
            have HNX : Hid (∀ p, 0 < k → ts[k - 1]? = some p → less p.lab lab = true) := fun p h => absurd h (by omega)
            have hgt : ¬ (0 : Int) < (k : Int) := by omega
            have HKK := Lib.hid hk0
            clear hk0
            go_wp2_with fail
            refine wp_region_stableGD 19 [23, 24, 25, 26, 27, 28, 29, 30, 31, 32, 33, 34, 35, 36, 37, 38, 39, 40, 41] (by kernel_rfl) (by kernel_rfl) (by kernel_rfl) (fun W => Below (wr.alloc (.cells #[.string lab, .int .i64 kind, .slice dA dn dc, .slice vA vn vc] 35)).heap.size (wr.alloc (.cells #[.string lab, .int .i64 kind, .slice dA dn dc, .slice vA vn vc] 35)) W) (fun W W' => Below W.heap.size W W')
              (vPhi [.pointer (some ⟨wr.heap.size, 0, none⟩), .string lab, .bool true, .bool false, .bool false, .int .i64 (k : Int), .bool false, .bool false, undef, undef, undef, undef, undef, undef, undef, undef, undef, undef, .bool false]) (fun W W' h1 h2 => h1.trans (h2.mono h1.size)) (fun _ _ _ _ h _ => h) (Below.refl _ _).drew ?steptrue0 ?tailtrue0
            case steptrue0 =>
              intro i o vs W hi ho hv hR hphi
              obtain ⟨v0, v1, v2, v3, v4, v5, v6, v7, v8, v9, v10, v11, v12, v13, v14, v15, v16, v17, v18, rfl⟩ := list19 hv
              simp only [List.zip, List.zipWith, putAll, Act.put, List.setIfInBounds_toArray, List.set]
              have l0 := (hR.cell (p := ⟨wr.heap.size, 0, none⟩) (by simp)).trans HLF.out
              have l1 := (hR.cell (p := ⟨w.heap.size, 0, none⟩) (by show w.heap.size < _; simp; omega)).trans HGF.out
              match i, hi, ho with
              | 0, _, rfl =>
                exact .inl ⟨rfl, gives_value (v := .pointer (some ⟨wr.heap.size, 0, none⟩)) (w' := W) (by go_simp) ⟨Below.refl _ _, fun u hu => by cases hu; rfl⟩⟩
              | 1, _, rfl =>
                have e0 : v0 = _ := hphi ⟨0, .data⟩ (by simp) rfl v0 rfl _ rfl
                subst e0
                exact .inl ⟨rfl, gives_value (v := .string lab) (w' := W) (by go_simp) ⟨Below.refl _ _, fun u hu => by cases hu; rfl⟩⟩
              | 2, _, rfl =>
                have e1 : v1 = _ := hphi ⟨1, .data⟩ (by simp) rfl v1 rfl _ rfl
                subst e1
                refine .inl ⟨rfl, gives_call (f := 79) (args := #[.string lab]) (by go_simp) ((label_any lab W hls).mono ?_)⟩
                rintro e W' ⟨rfl, hb⟩
                exact ⟨_, rfl, hb, fun u hu => by cases hu; rw [HLAB.out]⟩
              | 3, _, rfl =>
                have e2 : v2 = _ := hphi ⟨2, .data⟩ (by simp) rfl v2 rfl _ rfl
                subst e2
                exact .inl ⟨rfl, gives_value (v := .bool false) (w' := W) (by go_simp) ⟨Below.refl _ _, fun u hu => by cases hu; rfl⟩⟩
              | 4, _, rfl =>
                have e3 : v3 = _ := hphi ⟨3, .data⟩ (by simp) rfl v3 rfl _ rfl
                subst e3
                exact .inl ⟨rfl, gives_value (v := .bool false) (w' := W) (by go_simp) ⟨Below.refl _ _, fun u hu => by cases hu; rfl⟩⟩
              | 5, _, rfl =>
                have e4 : v4 = _ := hphi ⟨4, .guard⟩ (by simp) rfl v4 rfl _ rfl
                subst e4
                exact .inl ⟨rfl, gives_value (v := .int .i64 (k : Int)) (w' := W) (by go_simp) ⟨Below.refl _ _, fun u hu => by cases hu; rfl⟩⟩
              | 6, _, rfl =>
                have e5 : v5 = _ := hphi ⟨5, .data⟩ (by simp) rfl v5 rfl _ rfl
                have e4 : v4 = _ := hphi ⟨4, .guard⟩ (by simp) rfl v4 rfl _ rfl
                subst e4 e5
                exact .inl ⟨rfl, gives_value (v := .bool false) (w' := W) (by have h9 := HKK.out; go_simp) ⟨Below.refl _ _, fun u hu => by cases hu; rfl⟩⟩
              | 7, _, rfl =>
                have e6 : v6 = _ := hphi ⟨6, .data⟩ (by simp) rfl v6 rfl _ rfl
                have e4 : v4 = _ := hphi ⟨4, .guard⟩ (by simp) rfl v4 rfl _ rfl
                subst e4 e6
                exact .inl ⟨rfl, gives_value (v := .bool false) (w' := W) (by go_simp) ⟨Below.refl _ _, fun u hu => by cases hu; rfl⟩⟩
              | 8, _, rfl =>
                have e7 : v7 = _ := hphi ⟨7, .guard⟩ (by simp) rfl v7 rfl _ rfl
                subst e7
                exact .inr ⟨rfl, Below.refl _ _, fun u hu => by cases hu; rfl⟩
              | 9, _, rfl =>
                have e8 : v8 = _ := hphi ⟨8, .data⟩ (by simp) rfl v8 rfl _ rfl
                have e7 : v7 = _ := hphi ⟨7, .guard⟩ (by simp) rfl v7 rfl _ rfl
                subst e7 e8
                exact .inr ⟨rfl, Below.refl _ _, fun u hu => by cases hu; rfl⟩
              | 10, _, rfl =>
                have e7 : v7 = _ := hphi ⟨7, .guard⟩ (by simp) rfl v7 rfl _ rfl
                subst e7
                exact .inr ⟨rfl, Below.refl _ _, fun u hu => by cases hu; rfl⟩
              | 11, _, rfl =>
                have e10 : v10 = _ := hphi ⟨10, .data⟩ (by simp) rfl v10 rfl _ rfl
                have e7 : v7 = _ := hphi ⟨7, .guard⟩ (by simp) rfl v7 rfl _ rfl
                subst e7 e10
                exact .inr ⟨rfl, Below.refl _ _, fun u hu => by cases hu; rfl⟩
              | 12, _, rfl =>
                have e7 : v7 = _ := hphi ⟨7, .guard⟩ (by simp) rfl v7 rfl _ rfl
                subst e7
                exact .inr ⟨rfl, Below.refl _ _, fun u hu => by cases hu; rfl⟩
              | 13, _, rfl =>
                have e12 : v12 = _ := hphi ⟨12, .data⟩ (by simp) rfl v12 rfl _ rfl
                have e7 : v7 = _ := hphi ⟨7, .guard⟩ (by simp) rfl v7 rfl _ rfl
                subst e7 e12
                exact .inr ⟨rfl, Below.refl _ _, fun u hu => by cases hu; rfl⟩
              | 14, _, rfl =>
                have e11 : v11 = _ := hphi ⟨11, .data⟩ (by simp) rfl v11 rfl _ rfl
                have e13 : v13 = _ := hphi ⟨13, .data⟩ (by simp) rfl v13 rfl _ rfl
                have e7 : v7 = _ := hphi ⟨7, .guard⟩ (by simp) rfl v7 rfl _ rfl
                subst e7 e11 e13
                exact .inr ⟨rfl, Below.refl _ _, fun u hu => by cases hu; rfl⟩
              | 15, _, rfl =>
                have e14 : v14 = _ := hphi ⟨14, .data⟩ (by simp) rfl v14 rfl _ rfl
                have e7 : v7 = _ := hphi ⟨7, .guard⟩ (by simp) rfl v7 rfl _ rfl
                subst e7 e14
                exact .inr ⟨rfl, Below.refl _ _, fun u hu => by cases hu; rfl⟩
              | 16, _, rfl =>
                have e15 : v15 = _ := hphi ⟨15, .data⟩ (by simp) rfl v15 rfl _ rfl
                have e7 : v7 = _ := hphi ⟨7, .guard⟩ (by simp) rfl v7 rfl _ rfl
                subst e7 e15
                exact .inr ⟨rfl, Below.refl _ _, fun u hu => by cases hu; rfl⟩
              | 17, _, rfl =>
                have e9 : v9 = _ := hphi ⟨9, .data⟩ (by simp) rfl v9 rfl _ rfl
                have e16 : v16 = _ := hphi ⟨16, .data⟩ (by simp) rfl v16 rfl _ rfl
                have e7 : v7 = _ := hphi ⟨7, .guard⟩ (by simp) rfl v7 rfl _ rfl
                subst e7 e9 e16
                exact .inr ⟨rfl, Below.refl _ _, fun u hu => by cases hu; rfl⟩
              | 18, _, rfl =>
                have e7 : v7 = _ := hphi ⟨7, .data⟩ (by simp) rfl v7 rfl _ rfl
                have e17 : v17 = _ := hphi ⟨17, .data⟩ (by simp) rfl v17 rfl _ rfl
                have e4 : v4 = _ := hphi ⟨4, .guard⟩ (by simp) rfl v4 rfl _ rfl
                subst e4 e7 e17
                exact .inl ⟨rfl, gives_value (v := .bool false) (w' := W) (by go_simp) ⟨Below.refl _ _, fun u hu => by cases hu; rfl⟩⟩
              | i + 19, hi, _ => exact absurd hi (by omega)
            case' tailtrue0 =>
              intro vs W hv hR hphi
              obtain ⟨v0, v1, v2, v3, v4, v5, v6, v7, v8, v9, v10, v11, v12, v13, v14, v15, v16, v17, v18, rfl⟩ := list19 hv
              simp only [List.zip, List.zipWith, putAll, Act.put, List.setIfInBounds_toArray, List.set, List.drop]
              have e4 : v4 = _ := hphi 4 v4 rfl _ rfl
              have e18 : v18 = _ := hphi 18 v18 rfl _ rfl
              subst e4 e18
              have HBR : Hid (Below w1.heap.size w1 W) := HBa.out.trans (hR.mono HBa.out.size)
          case' inr =>
            obtain ⟨b', off', pt, e', _, hpt, q0, _⟩ := (H0.out.below (HB1.out.trans (HBa.out.mono (by omega))) hB).tg (show m < n by omega)
            cases e'
            have HPF := Lib.hid q0
            obtain ⟨plab, hpl⟩ : ∃ plab, pt.lab = plab := ⟨_, rfl⟩
            rw [hpl] at HPF
            obtain ⟨le, hle⟩ : ∃ le, (Op.bytesLess lab.toList plab.toList || lab.toList == plab.toList) = le := ⟨_, rfl⟩
            have hgt : (0 : Int) < (k : Int) := by omega
            have HKK : Hid (0 < k) := by show 0 < k; omega
            have hwrap : IntKind.i64.wrap ((k : Int) - 1) = (m : Int) := by rw [IntWalk.i64_in _ (by omega)]; omega
            have hmn : (m : Int) < (n : Int) := by omega
            have HLE := Lib.hid (le_not_less hle)
            have HPT : Hid (ts[k - 1]? = some pt) := by show _ = _; rw [hkm]; exact hpt
            have HPL := Lib.hid hpl
            clear hpt q0 hpl hkm
            go_wp2_with fail
            refine wp_region_stableGD 19 [23, 24, 25, 26, 27, 28, 29, 30, 31, 32, 33, 34, 35, 36, 37, 38, 39, 40, 41] (by kernel_rfl) (by kernel_rfl) (by kernel_rfl) (fun W => Below (wr.alloc (.cells #[.string lab, .int .i64 kind, .slice dA dn dc, .slice vA vn vc] 35)).heap.size (wr.alloc (.cells #[.string lab, .int .i64 kind, .slice dA dn dc, .slice vA vn vc] 35)) W) (fun W W' => Below W.heap.size W W')
              (vPhi [.pointer (some ⟨wr.heap.size, 0, none⟩), .string lab, .bool true, .bool false, .bool false, .int .i64 (k : Int), .bool true, .bool true, .pointer (some ⟨wr.heap.size, 0, none⟩), .string lab, .pointer (some ⟨w.heap.size, 0, none⟩), .slice (some ⟨b, off, none⟩) n c, .int .i64 (k : Int), .int .i64 (m : Int), .pointer (some ⟨b, off + m * 4, none⟩), .pointer (some ⟨b, off + m * 4, none⟩), .string plab, .bool le, .bool le]) (fun W W' h1 h2 => h1.trans (h2.mono h1.size)) (fun _ _ _ _ h _ => h) (Below.refl _ _).drew ?steptrue1 ?tailtrue1
            case steptrue1 =>
              intro i o vs W hi ho hv hR hphi
              obtain ⟨v0, v1, v2, v3, v4, v5, v6, v7, v8, v9, v10, v11, v12, v13, v14, v15, v16, v17, v18, rfl⟩ := list19 hv
              simp only [List.zip, List.zipWith, putAll, Act.put, List.setIfInBounds_toArray, List.set]
              have l0 := (hR.cell (p := ⟨wr.heap.size, 0, none⟩) (by simp)).trans HLF.out
              have l1 := (hR.cell (p := ⟨w.heap.size, 0, none⟩) (by show w.heap.size < _; simp; omega)).trans HGF.out
              have l2 := (hR.cell (p := ⟨b, off + m * 4, none⟩) (by show b < _; simp; omega)).trans HPF.out
              match i, hi, ho with
              | 0, _, rfl =>
                exact .inl ⟨rfl, gives_value (v := .pointer (some ⟨wr.heap.size, 0, none⟩)) (w' := W) (by go_simp) ⟨Below.refl _ _, fun u hu => by cases hu; rfl⟩⟩
              | 1, _, rfl =>
                have e0 : v0 = _ := hphi ⟨0, .data⟩ (by simp) rfl v0 rfl _ rfl
                subst e0
                exact .inl ⟨rfl, gives_value (v := .string lab) (w' := W) (by go_simp) ⟨Below.refl _ _, fun u hu => by cases hu; rfl⟩⟩
              | 2, _, rfl =>
                have e1 : v1 = _ := hphi ⟨1, .data⟩ (by simp) rfl v1 rfl _ rfl
                subst e1
                refine .inl ⟨rfl, gives_call (f := 79) (args := #[.string lab]) (by go_simp) ((label_any lab W hls).mono ?_)⟩
                rintro e W' ⟨rfl, hb⟩
                exact ⟨_, rfl, hb, fun u hu => by cases hu; rw [HLAB.out]⟩
              | 3, _, rfl =>
                have e2 : v2 = _ := hphi ⟨2, .data⟩ (by simp) rfl v2 rfl _ rfl
                subst e2
                exact .inl ⟨rfl, gives_value (v := .bool false) (w' := W) (by go_simp) ⟨Below.refl _ _, fun u hu => by cases hu; rfl⟩⟩
              | 4, _, rfl =>
                have e3 : v3 = _ := hphi ⟨3, .data⟩ (by simp) rfl v3 rfl _ rfl
                subst e3
                exact .inl ⟨rfl, gives_value (v := .bool false) (w' := W) (by go_simp) ⟨Below.refl _ _, fun u hu => by cases hu; rfl⟩⟩
              | 5, _, rfl =>
                have e4 : v4 = _ := hphi ⟨4, .guard⟩ (by simp) rfl v4 rfl _ rfl
                subst e4
                exact .inl ⟨rfl, gives_value (v := .int .i64 (k : Int)) (w' := W) (by go_simp) ⟨Below.refl _ _, fun u hu => by cases hu; rfl⟩⟩
              | 6, _, rfl =>
                have e5 : v5 = _ := hphi ⟨5, .data⟩ (by simp) rfl v5 rfl _ rfl
                have e4 : v4 = _ := hphi ⟨4, .guard⟩ (by simp) rfl v4 rfl _ rfl
                subst e4 e5
                exact .inl ⟨rfl, gives_value (v := .bool true) (w' := W) (by have h9 := HKK.out; go_simp) ⟨Below.refl _ _, fun u hu => by cases hu; rfl⟩⟩
              | 7, _, rfl =>
                have e6 : v6 = _ := hphi ⟨6, .data⟩ (by simp) rfl v6 rfl _ rfl
                have e4 : v4 = _ := hphi ⟨4, .guard⟩ (by simp) rfl v4 rfl _ rfl
                subst e4 e6
                exact .inl ⟨rfl, gives_value (v := .bool true) (w' := W) (by go_simp) ⟨Below.refl _ _, fun u hu => by cases hu; rfl⟩⟩
              | 8, _, rfl =>
                have e7 : v7 = _ := hphi ⟨7, .guard⟩ (by simp) rfl v7 rfl _ rfl
                subst e7
                exact .inl ⟨rfl, gives_value (v := .pointer (some ⟨wr.heap.size, 0, none⟩)) (w' := W) (by go_simp) ⟨Below.refl _ _, fun u hu => by cases hu; rfl⟩⟩
              | 9, _, rfl =>
                have e8 : v8 = _ := hphi ⟨8, .data⟩ (by simp) rfl v8 rfl _ rfl
                have e7 : v7 = _ := hphi ⟨7, .guard⟩ (by simp) rfl v7 rfl _ rfl
                subst e7 e8
                exact .inl ⟨rfl, gives_value (v := .string lab) (w' := W) (by go_simp) ⟨Below.refl _ _, fun u hu => by cases hu; rfl⟩⟩
              | 10, _, rfl =>
                have e7 : v7 = _ := hphi ⟨7, .guard⟩ (by simp) rfl v7 rfl _ rfl
                subst e7
                exact .inl ⟨rfl, gives_value (v := .pointer (some ⟨w.heap.size, 0, none⟩)) (w' := W) (by go_simp) ⟨Below.refl _ _, fun u hu => by cases hu; rfl⟩⟩
              | 11, _, rfl =>
                have e10 : v10 = _ := hphi ⟨10, .data⟩ (by simp) rfl v10 rfl _ rfl
                have e7 : v7 = _ := hphi ⟨7, .guard⟩ (by simp) rfl v7 rfl _ rfl
                subst e7 e10
                exact .inl ⟨rfl, gives_value (v := .slice (some ⟨b, off, none⟩) n c) (w' := W) (by go_simp) ⟨Below.refl _ _, fun u hu => by cases hu; rfl⟩⟩
              | 12, _, rfl =>
                have e7 : v7 = _ := hphi ⟨7, .guard⟩ (by simp) rfl v7 rfl _ rfl
                subst e7
                exact .inl ⟨rfl, gives_value (v := .int .i64 (k : Int)) (w' := W) (by go_simp) ⟨Below.refl _ _, fun u hu => by cases hu; rfl⟩⟩
              | 13, _, rfl =>
                have e12 : v12 = _ := hphi ⟨12, .data⟩ (by simp) rfl v12 rfl _ rfl
                have e7 : v7 = _ := hphi ⟨7, .guard⟩ (by simp) rfl v7 rfl _ rfl
                subst e7 e12
                exact .inl ⟨rfl, gives_value (v := .int .i64 (m : Int)) (w' := W) (by go_simp) ⟨Below.refl _ _, fun u hu => by cases hu; rfl⟩⟩
              | 14, _, rfl =>
                have e11 : v11 = _ := hphi ⟨11, .data⟩ (by simp) rfl v11 rfl _ rfl
                have e13 : v13 = _ := hphi ⟨13, .data⟩ (by simp) rfl v13 rfl _ rfl
                have e7 : v7 = _ := hphi ⟨7, .guard⟩ (by simp) rfl v7 rfl _ rfl
                subst e7 e11 e13
                exact .inl ⟨rfl, gives_value (v := .pointer (some ⟨b, off + m * 4, none⟩)) (w' := W) (by go_simp) ⟨Below.refl _ _, fun u hu => by cases hu; rfl⟩⟩
              | 15, _, rfl =>
                have e14 : v14 = _ := hphi ⟨14, .data⟩ (by simp) rfl v14 rfl _ rfl
                have e7 : v7 = _ := hphi ⟨7, .guard⟩ (by simp) rfl v7 rfl _ rfl
                subst e7 e14
                exact .inl ⟨rfl, gives_value (v := .pointer (some ⟨b, off + m * 4, none⟩)) (w' := W) (by go_simp) ⟨Below.refl _ _, fun u hu => by cases hu; rfl⟩⟩
              | 16, _, rfl =>
                have e15 : v15 = _ := hphi ⟨15, .data⟩ (by simp) rfl v15 rfl _ rfl
                have e7 : v7 = _ := hphi ⟨7, .guard⟩ (by simp) rfl v7 rfl _ rfl
                subst e7 e15
                exact .inl ⟨rfl, gives_value (v := .string plab) (w' := W) (by go_simp) ⟨Below.refl _ _, fun u hu => by cases hu; rfl⟩⟩
              | 17, _, rfl =>
                have e9 : v9 = _ := hphi ⟨9, .data⟩ (by simp) rfl v9 rfl _ rfl
                have e16 : v16 = _ := hphi ⟨16, .data⟩ (by simp) rfl v16 rfl _ rfl
                have e7 : v7 = _ := hphi ⟨7, .guard⟩ (by simp) rfl v7 rfl _ rfl
                subst e7 e9 e16
                exact .inl ⟨rfl, gives_value (v := .bool le) (w' := W) (by go_simp) ⟨Below.refl _ _, fun u hu => by cases hu; rfl⟩⟩
              | 18, _, rfl =>
                have e7 : v7 = _ := hphi ⟨7, .data⟩ (by simp) rfl v7 rfl _ rfl
                have e17 : v17 = _ := hphi ⟨17, .data⟩ (by simp) rfl v17 rfl _ rfl
                have e4 : v4 = _ := hphi ⟨4, .guard⟩ (by simp) rfl v4 rfl _ rfl
                subst e4 e7 e17
                exact .inl ⟨rfl, gives_value (v := .bool le) (w' := W) (by go_simp) ⟨Below.refl _ _, fun u hu => by cases hu; rfl⟩⟩
              | i + 19, hi, _ => exact absurd hi (by omega)
            case' tailtrue1 =>
              intro vs W hv hR hphi
              obtain ⟨v0, v1, v2, v3, v4, v5, v6, v7, v8, v9, v10, v11, v12, v13, v14, v15, v16, v17, v18, rfl⟩ := list19 hv
              simp only [List.zip, List.zipWith, putAll, Act.put, List.setIfInBounds_toArray, List.set, List.drop]
              have e4 : v4 = _ := hphi 4 v4 rfl _ rfl
              have e18 : v18 = _ := hphi 18 v18 rfl _ rfl
              subst e4 e18
              have HBR : Hid (Below w1.heap.size w1 W) := HBa.out.trans (hR.mono HBa.out.size)
              have hlec : le = true ∨ le = false := by cases le <;> simp
              rcases hlec with rfl | rfl
              case inl =>
                have hF : Hid (¬ Vld ts) := fun h => by
                  have h1 := h.next (by omega) HPT.out HT.out
                  rw [HPL.out] at h1
                  have h2 : less plab lab = false := HLE.out
                  rw [h2] at h1; cases h1
                clear hle hwrap
                go_wp2
                go_ret
                exact VldEnd.no hF.out (HB1.out.trans (HBR.out.mono (by omega)))
              have HNX : Hid (∀ p, 0 < k → ts[k - 1]? = some p → less p.lab lab = true) := fun p _ h => by
                rw [HPT.out] at h; cases h
                rw [HPL.out]; exact HLE.out
              clear hle hwrap hmn HPT HLE HPL HPF
          all_goals
            have HKW := Lib.hid (HK0.out.below hR (by simp))
            have hWz := HBR.out.size
            have hrz : wr.heap.size < W.heap.size := HKW.out.lt
            have HBW : Hid (Below w.heap.size w W) := HB1.out.trans (HBR.out.mono (by omega))
            have t1 := HKW.out.cell 1; have t2 := HKW.out.cell 2; have t3 := HKW.out.cell 3
            simp only [List.getElem?_toArray, List.getElem?_cons_succ, List.getElem?_cons_zero] at t1 t2 t3
            have hdn : dn ≤ 9223372036854775807 := by have h1 := HTO.out.dle; have h2 := HTO.out.dmax; unfold maxLen at h2; simp only at h1 h2; omega
            have HDL : Hid (deps.length = dn) := HTO.out.dlen
            have HMW : Hid (Rm W Tryz.prog 9 (w.heap.size + 1) n (idxG ts)) := HM.out.below HBR.out hz1
            clear hR hphi hv y0 y1 y2 y3 g0 HBa HLF HGF HK0 hgt
            by_cases hkind : kind = 1 ∨ kind = 2
            case neg =>
              have hF : Hid (¬ Vld ts) := fun h => hkind (h.at_ HT.out).kind
              have q1 : (kind != 1) = true := by rw [bne_iff_ne]; exact fun e => hkind (.inl e)
              have q2 : (kind != 2) = true := by rw [bne_iff_ne]; exact fun e => hkind (.inr e)
              clear hkind
              go_wp2
              go_ret
              exact VldEnd.no hF.out HBW.out
            by_cases hfew : dn ≤ 20
            case neg =>
              have hF : Hid (¬ Vld ts) := fun h => by have := (h.at_ HT.out).few; simp only at this; rw [HDL.out] at this; exact hfew this
              have q3 : (20 : Int) < (dn : Int) := by omega
              clear hfew
              rcases hkind with rfl | rfl
              · go_wp2
                go_ret
                exact VldEnd.no hF.out HBW.out
              · go_wp2
                go_ret
                exact VldEnd.no hF.out HBW.out
            have q3 : ¬ (20 : Int) < (dn : Int) := by omega
            have HKI := Lib.hid hkind
            rcases hkind with rfl | rfl
            all_goals
              go_wp2
              go_loopw [60] (fun i wi => ∃ j : Nat, j ≤ dn ∧ i = .int .i64 j ∧ wi = W ∧ Hid (∀ d ∈ deps.take j, kindOf ts d = 1) ∧ Hid ((deps.take j).Nodup)) (fun i _ => dn - (intOf i).toNat)
              case atStart => exact ⟨0, Nat.zero_le _, rfl, rfl, (fun d h => by simp at h), by simp [Hid]⟩
              case round =>
                obtain ⟨j, hj, rfl, rfl, hD1, hD2⟩ := hrel
                by_cases hjn : j < dn
                · obtain ⟨db, doff, d, rfl, hdb, hd, y4⟩ := (HTO.out.below HBW.out hB).d.str_at hjn
                  have hds := HTO.out.ds d (List.mem_of_getElem? hd)
                  have HTK := Lib.hid (take_snoc hd)
                  have HDD := Lib.hid hd
                  have hlz2 : (j : Int) < (dn : Int) := by omega
                  have hlk := HMW.out.look Tryz.underlying9 Tryz.underlying73 (Tryz.zeroValue35 _) hds
                  obtain ⟨x0', x2', x3', hgx⟩ := idx_kind ts d
                  have hlk2 : (Instr.lookup 73 (.map (some (w.heap.size + 1))) (.string d) false).run Tryz.prog wr = .ok (.agg #[x0', .int .i64 (kindOf ts d), x2', x3']) wr := by rw [← hgx]; exact hlk
                  obtain ⟨kq, hkq⟩ : ∃ kq, kindOf ts d = kq := ⟨_, rfl⟩
                  rw [hkq] at hlk2
                  have HKQ := Lib.hid hkq
                  have hfd : ∀ w' : World, (Instr.field 35 (.agg #[x0', .int .i64 kq, x2', x3']) 1).run Tryz.prog w' = .ok (.int .i64 kq) w' := field1 x0' x2' x3' kq
                  clear hd hlk hgx hkq
                  by_cases hk1 : kq = 1
                  case neg =>
                    have hF : Hid (¬ Vld ts) := fun h => hk1 (by have := (h.at_ HT.out).dep d (List.mem_of_getElem? HDD.out); rw [HKQ.out] at this; exact this)
                    have q5 : (kq != 1) = true := by rw [bne_iff_ne]; exact hk1
                    clear hk1
                    go_wp2_with fail
                    go_ret
                    exact VldEnd.no hF.out HBW.out
                  subst hk1
                  have hsl : ∀ w' : World, (Instr.sliceAt 33 (.slice (some ⟨db, doff, none⟩) dn dc) none (some (.int .i64 j)) none).run Tryz.prog w' = .ok (.slice (some ⟨db, doff, none⟩) j dc) w' := fun w' => by
                    obtain ⟨i0, hi0, _⟩ := info_parts infoStr'
                    exact run_slice_to 33 i0 Tryz.underlying33 hi0 _ dn dc j (by have := HTO.out.dle; simp only at this; omega) w'
                  have HSL := Lib.hid (contains_any (some ⟨db, doff, none⟩) dn j dc B deps d wr (HTO.out.below HBW.out hB).d hj hdn)
                  cases hm : memB (deps.take j) d with
                  | true =>
                    have hF : Hid (¬ Vld ts) := fun h => by
                      have h1 := (h.at_ HT.out).nod
                      have h2 := (memB_iff _ _).1 hm
                      have h3 : (deps.take (j + 1)).Nodup := h1.sublist (List.take_sublist _ _)
                      rw [HTK.out, List.nodup_append] at h3
                      exact h3.2.2 d h2 d (by simp) rfl
                    rw [hm] at HSL
                    clear hm
                    go_wp2_with (go_at_call 31; refine HSL.out.mono ?_; rintro e w2 ⟨rfl, rfl⟩)
                    go_ret
                    exact VldEnd.no hF.out HBW.out
                  | false =>
                    have HD3 : Hid (∀ x ∈ deps.take (j + 1), kindOf ts x = 1) := fun x hx => by
                      rw [HTK.out] at hx
                      rcases List.mem_append.1 hx with hx | hx
                      · exact hD1.out x hx
                      · rw [List.mem_singleton.1 hx]; exact HKQ.out
                    have HD4 : Hid ((deps.take (j + 1)).Nodup) := by
                      show List.Nodup _
                      rw [HTK.out, List.nodup_append]
                      refine ⟨hD2.out, by simp, fun a ha b' hb' => ?_⟩
                      rintro rfl
                      rw [List.mem_singleton.1 hb'] at ha
                      rw [(memB_iff _ _).2 ha] at hm; cases hm
                    rw [hm] at HSL
                    clear hm
                    go_wp2_with (go_at_call 31; refine HSL.out.mono ?_; rintro e w2 ⟨rfl, rfl⟩)
                    go_roundw
                    case rel => exact ⟨j + 1, hjn, by go_num, trivial, HD3.out, HD4.out⟩
                    case measure => simp [intOf]; omega
                · have hlz2 : ¬ (j : Int) < (dn : Int) := by omega
                  have HD3 : Hid (∀ x ∈ deps, kindOf ts x = 1) := by
                    have h1 := hD1.out; rwa [List.take_of_length_le (by rw [HDL.out]; omega)] at h1
                  have HD4 : Hid (deps.Nodup) := by
                    have h1 := hD2.out; rwa [List.take_of_length_le (by rw [HDL.out]; omega)] at h1
                  clear hD1 hD2
                  have HBq : Hid (Below wr.heap.size wr (wr.alloc (.cells #[.int .i64 1, .string nameA, .slice none 0 0, .slice vA vn vc] 60))) := (Below.refl _ wr).alloc (Nat.le_refl _) _
                  have HCK := Lib.hid (checkOne_any vA vn vc B wr.heap.size vis (wr.alloc (.cells #[.int .i64 1, .string nameA, .slice none 0 0, .slice vA vn vc] 60)) ((HTO.out.below HBW.out hB).v.below HBq.out (by omega)) (by simp; omega) HTO.out.vle HTO.out.vmax HTO.out.vs (Bk.new wr _ _))
                  by_cases hv0 : visE vis = 0
                  case neg =>
                    have hF : Hid (¬ Vld ts) := fun h => hv0 (h.at_ HT.out).vis
                    obtain ⟨ve, hve⟩ : ∃ ve, visE vis = ve := ⟨_, rfl⟩
                    rw [hve] at HCK hv0
                    have q6 : (ve != 0) = true := by rw [bne_iff_ne]; exact hv0
                    clear hv0 hve
                    go_wp2_with (go_at_call 81; refine HCK.out.mono ?_; rintro e w2 ⟨rfl, hb2⟩)
                    go_ret
                    exact VldEnd.no hF.out (HBW.out.trans ((HBq.out.trans (hb2.mono (by simp))).mono HBW.out.size))
                  have HU2 : Hid (Upto ts (k + 1)) := hU.out.step HT.out ⟨HLAB.out, by first | exact .inl rfl | exact .inr rfl, by simp only; rw [HDL.out]; exact hfew, HD3.out, HD4.out, hv0⟩ HNX.out
                  rw [hv0] at HCK
                  clear hv0
                  go_wp2_with (go_at_call 81; refine HCK.out.mono ?_; rintro e w2 ⟨rfl, hb2⟩; refine halt_ ?_)
                  refine unhalt ?_
                  have HB2 : Hid (Below w1.heap.size w1 w2) := HBR.out.trans ((HBq.out.trans (hb2.mono (by simp))).mono HBR.out.size)
                  clear hb2
                  go_wp2
                  go_roundw
                  case rel => exact ⟨k + 1, hlt, by go_num, HU2.out, HB2.out⟩
                  case measure => simp [intOf]; omega
      · have hlz : ¬ (k : Int) < (n : Int) := by omega
        have HU2 : Hid (Upto ts ts.length) := by
          have h1 := hU.out
          have h2 : k = ts.length := by have := HTL.out; omega
          rwa [h2] at h1
        have HDM : Hid (∀ t ∈ ts, t.deps.length ≤ 1000) := fun t ht => by
          obtain ⟨j, hj, e⟩ := List.getElem_of_mem ht
          have := (HU2.out j t hj (by rw [← e]; exact List.getElem?_eq_getElem _)).1.few
          omega
        have HCY := Lib.hid (cycle_any A n c B 1000 ts wr (H0.out.below HBw.out hB) (fun t ht => (HOK.out t ht).below HBw.out hB) (Nat.le_trans hB HBw.out.size) (by omega) HDM.out (by omega))
        go_wp2_with (go_at_call 20; refine HCY.out.mono ?_; rintro e w2 ⟨A', m, c', l, rfl, hS, hC, hb2⟩; refine halt_ ?_)
        refine unhalt ?_
        have HLm : Hid (l.length = m) := by have := hS.1; rw [strs_len] at this; show _ = _; omega
        have HC := Lib.hid hC
        have HB2 : Hid (Below w.heap.size w w2) := HBw.out.trans (hb2.mono HBw.out.size)
        clear hS hC hb2 HCY
        by_cases hm0 : m = 0
        · have q7 : ((m : Int) == 0) = true := by rw [beq_iff_eq]; omega
          have hF : Hid (Vld ts) := by
            refine HU2.out.vld (by rw [HTL.out]; omega) ?_
            rcases HC.out with ⟨_, h⟩ | ⟨_, _, _, _, h, _⟩
            · exact h
            · exact absurd (List.eq_nil_of_length_eq_zero (by rw [HLm.out]; exact hm0)) h
          clear hm0
          go_wp2
          go_ret
          exact ⟨true, rfl, ⟨fun _ => hF.out, fun _ => rfl⟩, HB2.out⟩
        · have q7 : ((m : Int) == 0) = false := by rw [beq_eq_false_iff_ne]; omega
          have hF : Hid (¬ Vld ts) := fun h => by
            rcases HC.out with ⟨h1, _⟩ | ⟨s, _, _, _, _, _, h1, _⟩
            · exact hm0 (by rw [← HLm.out, h1]; rfl)
            · exact h.free s h1
          clear hm0
          go_wp2
          go_ret
          exact VldEnd.no hF.out HB2.out
end Go.Proofs.YtddlohbhchjjhaaGreatDoor

namespace Go.Proofs.YtddlohbhchjjhaaGreatDoor
open Go.RowKit Go.Maps
attribute [local go_sem] Oper.semAt_some

def FndR (ts : List Tg) (lab : ByteArray) (l : List ByteArray) (err : Int) : Prop :=
  (¬ Vld ts ∧ l = [] ∧ err = 1) ∨ (Vld ts ∧ isT ts lab = false ∧ l = [] ∧ err = 8) ∨ (Vld ts ∧ isT ts lab = true ∧ err = 0 ∧ Asc l ∧ ∀ x, x ∈ l ↔ Rch (nxT ts) lab x)
def FndEnd (ts : List Tg) (lab : ByteArray) (w : World) (e : Ending) (w' : World) : Prop :=
  ∃ A n c l err, e = .returned (.tuple #[.slice A n c, .int .i64 err]) ∧ Sl w' w'.heap.size 1 A n (strs l) ∧ n ≤ c ∧ c ≤ maxLen ∧ Below w.heap.size w w' ∧ FndR ts lab l err
theorem FndEnd.none_ {ts : List Tg} {lab : ByteArray} {w w' : World} {err : Int} (h : FndR ts lab [] err) (hb : Below w.heap.size w w') : FndEnd ts lab w (.returned (.tuple #[.slice none 0 0, .int .i64 err])) w' :=
  ⟨none, 0, 0, [], err, rfl, Sl.nil _ _ _ _, Nat.le_refl _, Nat.zero_le _, hb, h⟩
theorem resultsFnd {w : World} {a : Array Value} {v u : Value} (ha : a[6]?.getD undef = v) (hu : a[7]?.getD undef = u) : (results Tryz.f72 a).run Tryz.prog w = .ok (.tuple #[v, u]) w := by
  simp [results, Tryz.results72, ha, hu, go_sem]
theorem own_row {W : World} {base size n : Nat} {e : TypeId} {v : Value} {xs : List Value} (h : W.ownsRow base e size v n xs) {k : Nat} (hk : v.ownBlock = some k) : base ≤ k ∧ ∃ cur, W.heap[k]? = some (.cells cur e (0, 0)) := by
  rcases h.2 with ⟨rfl, _⟩ | ⟨g, cap, cur, rfl, h1, h2, _⟩
  · cases hk
  · cases hk; exact ⟨h1, cur, h2⟩
theorem own_keep {W W' : World} {base size n : Nat} {e : TypeId} {v : Value} {xs : List Value} (h : W.ownsRow base e size v n xs) (hk : ∀ k, v.ownBlock = some k → W'.heap[k]? = W.heap[k]?) : W'.ownsRow base e size v n xs := by
  refine ⟨h.1, ?_⟩
  rcases h.2 with h0 | ⟨g, cap, cur, rfl, h1, h2, h3⟩
  · exact .inl h0
  · exact .inr ⟨g, cap, cur, rfl, h1, (hk g rfl).trans h2, h3⟩

set_option maxRecDepth 100000 in
set_option maxHeartbeats 4000000 in
theorem find_any (A : Option Addr) (n c B : Nat) (ts : List Tg) (lab : ByteArray) (w : World) (h0 : Sl w B 4 A n (flat tgC ts)) (hok : ∀ t ∈ ts, TgOk w B t) (hB : B ≤ w.heap.size) (hnc : n ≤ c) (hcm : c ≤ maxLen) (hls : lab.size ≤ maxLen) :
    Calls Tryz.prog 72 #[.agg #[.slice A n c], .string lab, .bool false] w (FndEnd ts lab w) := by
  refine (callsIn_wide (n := 6)).1 ?_
  have hf1 : Fence.wide.fn 65 := trivial
  have hf2 : Fence.wide.fn 53 := trivial
  have hf3 : Fence.wide.fn 62 := trivial
  have hf4 : Fence.wide.fn 70 := trivial
  have hf5 : Fence.wide.fn 107 := trivial
  have HTL := Lib.hid (h0.len tgC_len (by omega))
  have H0 := Lib.hid h0; have HOK := Lib.hid hok
  clear h0 hok
  have HB0 : Hid (Below w.heap.size w (w.alloc (.cells #[.slice A n c] 27))) := (Below.refl _ w).alloc (Nat.le_refl _) _
  have HG0 : Hid ((w.alloc (.cells #[.slice A n c] 27)).heap[w.heap.size]? = some (.cells #[.slice A n c] 27 (0, 0))) := World.alloc_heap_new w _
  refine callsIn_of_wp_marks Tryz.func72 rfl trivial ?_ rfl
  simp only [Tryz.ntmps72, List.size_toArray, List.length_cons, List.length_nil, Nat.reduceAdd, Nat.reduceSub, Array.replicate_succ, Array.replicate_zero, List.push_toArray, List.append_toArray, List.nil_append, List.cons_append]
  have HV1 := Lib.hid (valid_any A n c B ts (w.alloc (.cells #[.slice A n c] 27)) (H0.out.below HB0.out hB) (fun t ht => (HOK.out t ht).below HB0.out hB) (by simp; omega) hnc hcm)
  gi_wp2_with (gi_at_call 70; refine (callsIn_wide.2 HV1.out).mono ?_; rintro e w1 ⟨r, rfl, hr, hb1⟩; refine halt_ ?_)
  refine unhalt ?_
  have HR := Lib.hid hr
  have HB1 : Hid (Below w.heap.size w w1) := HB0.out.trans (hb1.mono (by simp))
  have HG1 : Hid (w1.heap[w.heap.size]? = some (.cells #[.slice A n c] 27 (0, 0))) := (hb1.block _ (by simp)).trans HG0.out
  have hz1 : w.heap.size < w1.heap.size := by have := hb1.size; simp at this; omega
  have x0 := cell_of_one HG1.out
  clear hr hb1 HV1 HG0
  cases r with
  | false =>
    have HF : Hid (FndR ts lab [] 1) := .inl ⟨fun h => (by have := HR.out.2 h; cases this), rfl, rfl⟩
    gi_wp2
    exact ⟨_, resultsFnd rfl rfl, FndEnd.none_ HF.out HB1.out⟩
  | true =>
    have HVL := Lib.hid (HR.out.1 rfl)
    have hn100 : n ≤ 100 := by have := HVL.out.few; rw [HTL.out] at this; exact this
    have HDM : Hid (∀ t ∈ ts, t.deps.length ≤ 20) := fun t ht => (HVL.out.all t ht).few
    clear HR
    have HI := Lib.hid (index_any A n c B ts w1 (H0.out.below HB1.out hB) (by omega) (by omega) (fun t ht => (HOK.out t ht).ls))
    gi_wp2_with (gi_at_call 53; refine (callsIn_wide.2 HI.out).mono ?_; rintro e w2 ⟨rfl, hM, hb2⟩; refine halt_ ?_)
    refine unhalt ?_
    have HM := Lib.hid hM
    have HB2 : Hid (Below w.heap.size w w2) := HB1.out.trans (hb2.mono (by omega))
    have hz2 : w1.heap.size < w2.heap.size := HM.out.lt
    clear hM hb2 HI x0 HG1
    have hlk := HM.out.look_ok Tryz.underlying9 Tryz.underlying73 (Tryz.zeroValue35 _) hls
    rw [idxG_some] at hlk
    obtain ⟨lv, hlv⟩ : ∃ lv, (idxG ts lab).getD (.agg #[.string ⟨#[]⟩, .int .i64 0, .slice none 0 0, .slice none 0 0]) = lv := ⟨_, rfl⟩
    have hlf : ∃ s0 k1 A2 n2 c2 A3 n3 c3, lv = .agg #[.string s0, .int .i64 k1, .slice A2 n2 c2, .slice A3 n3 c3] := by
      rw [← hlv]; unfold idxG
      cases findT ts lab with
      | none => exact ⟨_, _, _, _, _, _, _, _, rfl⟩
      | some t => exact ⟨_, _, _, _, _, _, _, _, rfl⟩
    obtain ⟨s0, k1, A2, n2, c2, A3, n3, c3, rfl⟩ := hlf
    rw [hlv] at hlk
    clear hlv
    cases hs : isT ts lab with
    | false =>
      have HF : Hid (FndR ts lab [] 8) := .inr (.inl ⟨HVL.out, hs, rfl, rfl⟩)
      rw [hs] at hlk
      clear hs
      gi_wp2
      exact ⟨_, resultsFnd rfl rfl, FndEnd.none_ HF.out (HB2.out.alloc (by omega) _)⟩
    | true =>
      have HS := Lib.hid hs
      rw [hs] at hlk
      clear hs
      have HBT : Hid (Below w.heap.size w (w2.alloc (.cells #[.string s0, .int .i64 k1, .slice A2 n2 c2, .slice A3 n3 c3] 35))) := HB2.out.alloc (by omega) _
      have HE1 := Lib.hid (edges_any w1.heap.size n 20 B ts (w2.alloc (.cells #[.string s0, .int .i64 k1, .slice A2 n2 c2, .slice A3 n3 c3] 35)) (HM.out.alloc _) (fun t ht => (HOK.out t ht).below HBT.out hB) (by simp; omega) (by omega) HDM.out (by omega))
      gi_wp2_with (gi_at_call 62; refine (callsIn_wide.2 HE1.out).mono ?_; rintro e w3 ⟨rfl, gd, gu, L, hE, hLd, hLu, hb3⟩; refine halt_ ?_)
      refine unhalt ?_
      have HND : Hid (Nxm w3 w3.heap.size (w2.heap.size + 1) 2000000 gd (nxT ts)) := by
        have := hE.nxmD hLd
        rw [World.size_alloc] at this
        exact this
      have HBW : Hid (Below w.heap.size w w3) := HBT.out.trans (hb3.mono (by simp; omega))
      have hz3 : w2.heap.size + 1 < w3.heap.size := HND.out.lt
      have HU : Hid (∀ x, ∀ y ∈ nxT ts x, y ∈ ts.map Tg.lab) := fun x y hy => (isT_iff ts y).1 (nxT_mem hy).1
      have HUl : Hid ((ts.map Tg.lab).length ≤ 1000) := by show _ ≤ _; rw [List.length_map, HTL.out]; omega
      have HUs : Hid (∀ y ∈ ts.map Tg.lab, y.size ≤ maxLen) := fun y hy => by
        obtain ⟨t, ht, rfl⟩ := List.mem_map.1 hy
        exact (HOK.out t ht).ls
      clear hE hLd hLu hb3 HE1 HM HB1 HB2 H0 HBT hlk
      gi_wp2_with (gi_at_call 65; refine (callsIn_wide.2 (reached_any _ _ _)).mono ?_; rintro e w' ⟨rfl, rfl⟩)
      obtain ⟨W1, hW1⟩ : ∃ W1, w3.alloc (.cells #[.slice none 0 0] 33) = W1 := ⟨_, rfl⟩
      have hy1 : W1.heap.size = w3.heap.size + 1 := by rw [← hW1]; simp
      have hbb : Below w3.heap.size w3 W1 := by rw [← hW1]; exact (Below.refl _ w3).alloc (Nat.le_refl _) _
      have g1 : W1.heap[w3.heap.size]? = some (.cells #[.slice none 0 0] 33 (0, 0)) := by rw [← hW1]; exact World.alloc_heap_new w3 _
      have hnx : NxR ((W1.alloc (.cells #[.map (some (w2.heap.size + 1))] 81)).alloc (.cells #[.string lab] 9)) Tryz.prog 9 81 w3.heap.size (w3.heap.size + 1 + 1) (w3.heap.size + 1) (w2.heap.size + 1) 2000000 lab gd (nxT ts) := by
        have := (HND.out.below hbb (Nat.le_refl _)).boxed (by omega) lab
        rw [hy1] at this; exact this
      rw [hW1]
      obtain ⟨W2, hW2⟩ : ∃ W2, (W1.alloc (.cells #[.map (some (w2.heap.size + 1))] 81)).alloc (.cells #[.string lab] 9) = W2 := ⟨_, rfl⟩
      have hy2 : W2.heap.size = w3.heap.size + 3 := by rw [← hW2]; simp; omega
      have hb12 : Below W1.heap.size W1 W2 := by rw [← hW2]; exact ((Below.refl _ W1).alloc (Nat.le_refl _) _).alloc (by simp) _
      have hb2 : Below w3.heap.size w3 W2 := hbb.trans (hb12.mono (by omega))
      replace g1 := (hb12.block w3.heap.size (by omega)).trans g1
      rw [hW2] at hnx ⊢
      clear hW1 hW2 hb12 hbb hy1 W1
      refine wpIn_rangeT (α := ByteArray × Nat) (F := Fence.wide) (n := 6) rfl (by omega) (gf := 108) (lb := #[.pointer (some ⟨w3.heap.size + 1 + 1, 0, none⟩), .pointer (some ⟨w3.heap.size + 1, 0, none⟩)]) rfl trivial (enters_of Tryz.func108 (by kernel_rfl) rfl)
        (reached_st 5 (by omega) w3.heap.size (w3.heap.size + 1 + 1) (w3.heap.size + 1) (w2.heap.size + 1) 2000000 (W2.heap.size + 2) lab gd (nxT ts) (ts.map Tg.lab) W2 hnx (by omega) (by omega) (by omega) (by omega) HU.out HUl.out HUs.out hls) KeepR.trans (fun W l r o' hl hlr => keepR_put W l r o' hlr (by omega) (by omega)) (fun A C h hA => stepR_rec h rfl hA) (Below.refl _ _) (fun _ => rfl)
        (fun pre W => ∃ Aq cq, W.heap[w3.heap.size]? = some (.cells #[.slice Aq pre.length cq] 33 (0, 0)) ∧ W.ownsRow (W2.heap.size + 3) 9 1 (.slice Aq pre.length cq) pre.length (strs (pre.map Prod.fst)) ∧ Below w3.heap.size w3 W ∧ w3.heap.size + 3 ≤ W.heap.size)
        (fun _ _ _ => False)
        ?hI ?hIx ?hIS ⟨none, 0, g1, World.ownsRow_nil _ _ _ _, hb2, by omega⟩ ?a1 ?assign ?body ?done ?stop
      case assign =>
        intro l y W K hK
        have HKK := Lib.hid hK
        clear hK
        gi_wp2
        exact HKK.out
      case hI =>
        rintro pre A C row ⟨Aq, cq, h0, h1, h2, h3⟩ hg hr
        refine ⟨Aq, cq, one_grown h0 hg (fun e => ?_), h1.kept hg ?_, h2.grown hg h2.size (fun k e => ?_), Nat.le_trans h3 hg.size⟩
        · have := (hr _ e.symm).1; omega
        · cases hv : (Value.slice Aq pre.length cq).ownBlock with
          | none => exact .inl rfl
          | some k =>
            refine .inr fun e => ?_
            obtain ⟨_, cur, hcur⟩ := own_row h1 hv
            obtain ⟨_, o, ho, hc⟩ := hr _ e.symm
            rw [hcur] at ho; cases ho; cases hc
        · have := (hr _ e).1; omega
      case hIx => rintro c pre A C row hf _ _; exact hf
      case hIS =>
        rintro pre A C ⟨Aq, cq, h0, h1, h2, h3⟩ hs
        refine ⟨Aq, cq, (hs.block _ (by omega) (.inl (by omega))).trans h0, own_keep h1 (fun k hk => ?_), hs.below h2 (by omega) (by omega), Nat.le_trans h3 hs.size⟩
        obtain ⟨hbk, cur, hcur⟩ := own_row h1 hk
        exact hs.block k (Array.getElem?_eq_some_iff.1 hcur).1 (.inr ⟨by omega, by rw [hcur]; show ¬ (_ = _); decide⟩)
      case stop => rintro D c pre W hD hS hf hK; exact hf.elim
      case body =>
        rintro l pre y W hpf hWz ⟨Aq, cq, h0, h1, h2, h3⟩
        have c0 := cell_of_one h0
        have f0 := free_of_one h0
        have H0 := Lib.hid h0; have H1 := Lib.hid h1; have H2 := Lib.hid h2
        have hpl := hpf.len HU.out
        have HUl' := HUl.out
        obtain ⟨y, ky⟩ := y
        simp only [List.length_append, List.length_cons, List.length_nil] at hpl
        obtain ⟨i0, hi, hz0, hz1', hz2'⟩ := info_parts infoStr
        have Hi := Lib.hid hi; have Hz0 := Lib.hid hz0; have Hz1 := Lib.hid hz1'; have Hz2 := Lib.hid hz2'
        clear h0 h1 h2 g1 hb2 hnx hpf hi hz0 hz1' hz2'
        gi_wp2_with (gi_at_builtin; refine halt_ ?_)
        refine unhalt ?_
        refine wpListIn_append_sl (base := W2.heap.size + 3) (size := 1) rfl (.tmp 41) (.tmp 43) 33 rfl 9 i0 _ 16 Tryz.underlying33 Hi.out Hz0.out Hz1.out Hz2.out rfl (by decide) (.slice Aq pre.length cq) pre.length (strs (pre.map Prod.fst)) rfl ?own (W.heap.size + 1) _ 1 _ [.string y] rfl ?nw (by simp [Value.oneCell']) ?l1 ?l2 ?l3 ?_
        case own => exact H1.out.kept (World.grownBy_alloc W _ none) (by cases hv : (Value.slice Aq pre.length cq).ownBlock with | none => exact .inl rfl | some k => exact .inr (by simp))
        case nw => exact ⟨rfl, fun _ => ⟨W.heap.size, 0, rfl, Nat.lt_succ_self _, fun j u hu => by have := new_cell W 9 y j u hu; rwa [Addr.add_lit] at this⟩⟩
        case l1 => unfold maxLen; omega
        case l2 => omega
        case l3 => simp; omega
        intro A4 c4 w4 ho4 hg4 hc41 hc42
        have HO4 : Hid (w4.ownsRow (W2.heap.size + 3) 9 1 (.slice A4 (pre.length + 1) c4) (pre.length + 1) (strs ((pre ++ [(y, ky)]).map Prod.fst))) := by
          show World.ownsRow _ _ _ _ _ _ _
          have e : strs ((pre ++ [(y, ky)]).map Prod.fst) = strs (pre.map Prod.fst) ++ [.string y] := by simp [strs]
          rw [e]; exact ho4
        have HGE : Hid (∀ k, (Value.slice Aq pre.length cq).ownBlock = some k → W2.heap.size + 3 ≤ k ∧ ∃ cur, W.heap[k]? = some (.cells cur 9 (0, 0))) := fun k hk => own_row H1.out hk
        have HX4 : Hid (w4.heap[w3.heap.size]? = some (.cells #[.slice Aq pre.length cq] 33 (0, 0))) := one_grown ((Below.heap_alloc W _ _ (by omega)).trans H0.out) hg4 (fun e => by have := (HGE.out _ e.symm).1; omega)
        have c4' := cell_of_one HX4.out
        have f4' := free_of_one HX4.out
        have hz4 : W.heap.size + 1 ≤ w4.heap.size := by have := hg4.size; simp at this; omega
        have HB4 : Hid (Below w3.heap.size w3 w4) := (H2.out.alloc (by omega) _).grown hg4 (by simp; omega) (fun k hk => by have := (HGE.out k hk).1; omega)
        have HK4 : Hid (∀ k, k < W.heap.size → (Value.slice Aq pre.length cq).ownBlock ≠ some k → w4.heap[k]? = W.heap[k]?) := fun k hk hne => (hg4.block k (by simp; omega) (fun e => hne e.symm)).trans (Below.heap_alloc W _ _ hk)
        clear ho4 hg4 c0 f0
        gi_wp2
        have HS : Hid (∀ k, k < W.heap.size → (Value.slice Aq pre.length cq).ownBlock ≠ some k → k ≠ w3.heap.size → (w4.setCell ⟨w3.heap.size, 0, none⟩ (.slice A4 (pre.length + 1) c4)).heap[k]? = W.heap[k]?) := fun k hk hne hk3 => (Below.heap_setCell _ _ _ _ hk3).trans (HK4.out k hk hne)
        refine ⟨⟨HS.out _ (by omega) (fun e => by have := (HGE.out _ e).1; omega) (by omega), HS.out _ (by omega) (fun e => by have := (HGE.out _ e).1; omega) (by omega)⟩, ⟨by simp; omega, fun k hk hc => ?_⟩, A4, c4, ?_, ?_, ?_, ?_⟩
        · refine HS.out k hk (fun e => ?_) (fun e => ?_)
          · obtain ⟨h5, cur, h6⟩ := HGE.out k e
            rcases hc with h | h | h
            · omega
            · rw [h6] at h; revert h; show ¬ (_ = _); decide
            · omega
          · subst e
            rcases hc with h | h | h
            · omega
            · rw [H0.out] at h; revert h; show ¬ (_ = _); decide
            · omega
        · rw [List.length_append]; exact one_setCell HX4.out
        · rw [List.length_append]; exact ownsRow_setCell_below HO4.out (by simp; omega) _
        · exact HB4.out.setCell (p := ⟨w3.heap.size, 0, none⟩) (by simp) _
        · simp; omega
      case done =>
        rintro D xs W hD ⟨hgot, hS⟩ ⟨Aq, cq, h0, h1, h2, h3⟩ hK
        have c0 := cell_of_one h0
        have HE : Hid (Asc (srtB (xs.map Prod.fst)) ∧ ∀ x, x ∈ srtB (xs.map Prod.fst) ↔ Rch (nxT ts) lab x) := ⟨srtB_asc hgot.nodup, fun x => by rw [srtB_mem, hS x]⟩
        have hpl := hgot.len HU.out
        have HUl' := HUl.out
        have H0 := Lib.hid h0; have H1 := Lib.hid h1; have HK := Lib.hid hK; have H2 := Lib.hid h2
        clear h0 h1 h2 hK hgot hS g1 hb2 hnx
        have HSO := Lib.hid (sort_any (W2.heap.size + 3) xs.length cq Aq (xs.map Prod.fst) W H1.out (by omega))
        gi_wp2_with (gi_at_call 107; refine (callsIn_wide.2 HSO.out).mono ?_; rintro e w5 ⟨rfl, hs1, hs2⟩; refine halt_ ?_)
        refine unhalt ?_
        have HO5 := Lib.hid hs1
        have HX5 : Hid (w5.heap[w3.heap.size]? = some (.cells #[.slice Aq xs.length cq] 33 (0, 0))) := one_grown H0.out hs2 (fun e => by have := (own_row H1.out e.symm).1; omega)
        have c5 := cell_of_one HX5.out
        have HB5 : Hid (Below w3.heap.size w3 w5) := H2.out.grown hs2 H2.out.size (fun k hk => by have := (own_row H1.out hk).1; omega)
        have HD5 : Hid (w5.heap[D]? = some (.deferred (some []))) := (hs2.block D (Array.getElem?_eq_some_iff.1 HK.out).1 (fun e => by
          obtain ⟨_, cur, h6⟩ := own_row H1.out e.symm
          rw [HK.out] at h6; cases h6)).trans HK.out
        clear hs1 hs2 HSO H0 HK c0
        gi_wp2
        refine ⟨by simp, .inl ⟨_, _, rfl, run_takeDeferred HD5.out, ?_⟩⟩
        have HBE : Hid (Below w3.heap.size w3 (w5.putObj D (.deferred none))) := HB5.out.grown (grownBy_putObj' _ _ _) HB5.out.size (fun k e => by cases e; omega)
        obtain ⟨_, _, hform, hl1, hl2⟩ := ownsRow_form HO5.out
        injection hform with _ _ hcc
        subst hcc
        refine ⟨_, resultsFnd rfl rfl, Aq, xs.length, cq, srtB (xs.map Prod.fst), 0, rfl, ?_, hl1, hl2, HBW.out.trans (HBE.out.mono HBW.out.size), .inr (.inr ⟨HVL.out, HS.out, rfl, HE.out.1, HE.out.2⟩)⟩
        exact Sl.of_own (own_keep HO5.out (fun k hk => World.putObj_heap_other (fun e => by
          obtain ⟨_, cur, h6⟩ := own_row HO5.out hk
          subst e
          rw [HD5.out] at h6; cases h6)))
set_option maxHeartbeats 400000 in
theorem deps_any (A : Option Addr) (n c B : Nat) (ts : List Tg) (lab : ByteArray) (w : World) (h0 : Sl w B 4 A n (flat tgC ts)) (hok : ∀ t ∈ ts, TgOk w B t) (hB : B ≤ w.heap.size) (hnc : n ≤ c) (hcm : c ≤ maxLen) (hls : lab.size ≤ maxLen) :
    Calls Tryz.prog 29 #[.agg #[.slice A n c], .string lab] w (FndEnd ts lab w) := by
  have HB0 : Hid (Below w.heap.size w (w.alloc (.cells #[.slice A n c] 27))) := (Below.refl _ w).alloc (Nat.le_refl _) _
  have HF := Lib.hid (find_any A n c B ts lab (w.alloc (.cells #[.slice A n c] 27)) (h0.below HB0.out hB) (fun t ht => (hok t ht).below HB0.out hB) (by simp; omega) hnc hcm hls)
  clear h0 hok
  go_enter Tryz.func29, Tryz.ntmps29
  go_wp2_with (go_at_call 72; refine HF.out.mono ?_; rintro e w1 ⟨A1, n1, c1, l, err, rfl, h1, h2, h3, h4, h5⟩)
  go_ret2
  exact ⟨A1, n1, c1, l, err, rfl, h1, h2, h3, HB0.out.trans (h4.mono (by simp)), h5⟩
end Go.Proofs.YtddlohbhchjjhaaGreatDoor

namespace Go.Proofs.YtddlohbhchjjhaaGreatDoor
open Go.RowKit Go.Shelf
attribute [local go_sem] Oper.semAt_some

theorem infoWord : (Tryz.prog.info? 165).map (fun i => (i.zero, i.size, i.bytes)) = some (some (.agg #[.string ⟨#[]⟩, .int .i64 0]), 2, 24) := by kernel_rfl
def wdC (x : ByteArray × Nat) : List Value := [.string x.1, .int .i64 (x.2 : Int)]
theorem wdC_len (x : ByteArray × Nat) : (wdC x).length = 2 := rfl
theorem new_cell2 (w : World) (t : TypeId) (x y : Value) : ∀ j u, [x, y][j]? = some u → (w.alloc (.cells #[x, y] t)).cell? (Addr.add ⟨w.heap.size, 0, none⟩ j) = some u := by
  intro j u hj
  have hb : Bk (w.alloc (.cells #[x, y] t)) w.heap.size t #[x, y] := Bk.new w t #[x, y]
  rw [Addr.add_lit]
  rw [hb.cell]
  rcases j with _ | _ | j
  · simpa using hj
  · simpa using hj
  · simp at hj

theorem WdF.szs {s : ByteArray} {a : Nat} {ws : List (ByteArray × Nat)} (h : WdF s a ws) : (∀ x ∈ ws, x.1.size ≤ s.size ∧ x.2 ≤ s.size) ∧ ws.length + min a s.size ≤ s.size := by
  induction h with
  | done h => exact ⟨fun x hx => (by cases hx), by simp; omega⟩
  | blank h1 _ _ ih =>
    have := (List.getElem?_eq_some_iff.1 h1).1
    rw [bl_len] at this
    exact ⟨ih.1, by have := ih.2; omega⟩
  | note h1 h2 _ ih => exact ⟨ih.1, by have := ih.2; have := h2.1; have := h2.2.1; omega⟩
  | word h1 _ _ _ h2 _ ih =>
    refine ⟨fun x hx => ?_, by have := ih.2; have := h2.1; have := h2.2.1; simp; omega⟩
    rcases List.mem_cons.1 hx with rfl | hx
    · simp; have := h2.1; have := h2.2.1; omega
    · exact ih.1 x hx
theorem wdF_sz {s : ByteArray} {ws : List (ByteArray × Nat)} (h : WdF s 0 ws) : ∃ (_ : ∀ x ∈ ws, x.1.size ≤ s.size ∧ x.2 ≤ s.size), ws.length ≤ s.size := ⟨h.szs.1, by have := h.szs.2; simp at this; omega⟩

set_option maxRecDepth 100000 in
set_option maxHeartbeats 4000000 in
theorem appendSeq_any (bs : Nat) (s : ByteArray) (w : World) (hs : s.size ≤ 1000000) (h0 : w.heap[bs]? = some (.cells #[.string s] 9 (0, 0))) :
    Calls Tryz.prog 186 #[.slice none 0 0, .func (.func 187) #[] #[.pointer (some ⟨bs, 0, none⟩)]] w fun e w' =>
      ∃ A c ws, e = .returned (.slice A ws.length c) ∧ WdF s 0 ws ∧ (∀ x ∈ ws, x.1.size ≤ s.size ∧ x.2 ≤ s.size) ∧ ws.length ≤ s.size ∧ ws.length ≤ c ∧ c ≤ maxLen ∧ Sl w' w'.heap.size 2 A ws.length (flat wdC ws) ∧ Below w.heap.size w w' := by
  refine (callsIn_wide (n := 6)).1 ?_
  have hf1 : Fence.wide.fn 187 := trivial
  have H0 := Lib.hid h0
  clear h0
  refine callsIn_of_wp_marks Tryz.func186 rfl trivial ?_ rfl
  simp only [Tryz.ntmps186, List.size_toArray, List.length_cons, List.length_nil, Nat.reduceAdd, Nat.reduceSub, Array.replicate_succ, Array.replicate_zero, List.push_toArray, List.append_toArray, List.nil_append, List.cons_append]
  gi_wp2
  obtain ⟨W2, hW2⟩ : ∃ W2, w.alloc (.cells #[.slice none 0 0] 162) = W2 := ⟨_, rfl⟩
  have hb2 : Below w.heap.size w W2 := by rw [← hW2]; exact (Below.refl _ w).alloc (Nat.le_refl _) _
  have g1 : W2.heap[w.heap.size]? = some (.cells #[.slice none 0 0] 162 (0, 0)) := by rw [← hW2]; exact World.alloc_heap_new w _
  have hy2 : W2.heap.size = w.heap.size + 1 := by rw [← hW2]; simp
  have hlt0 : bs < w.heap.size := (Array.getElem?_eq_some_iff.1 H0.out).1
  have g0 : W2.heap[bs]? = some (.cells #[.string s] 9 (0, 0)) := (hb2.block _ hlt0).trans H0.out
  rw [hW2]
  clear hW2
  refine wpIn_rangeTA (α := ByteArray × Nat) (F := Fence.wide) (n := 6) rfl (by omega) (gf := 187) (lb := #[.pointer (some ⟨bs, 0, none⟩)]) rfl trivial (enters_of Tryz.func187 (by kernel_rfl) rfl)
    (words1_st 5 bs (W2.heap.size + 2) (by omega) s W2 hs g0) (fun {A B C} (h1 : KeepWd bs A B) (h2 : KeepWd bs B C) => h2.trans h1) (fun W l r o' hl hlr => World.putObj_heap_other (by omega)) (fun A C h hA => by cases h; exact Rec2.refl _ _) (Below.refl _ _) (fun _ => rfl)
    (fun pre W => ∃ Aq cq, W.heap[w.heap.size]? = some (.cells #[.slice Aq pre.length cq] 162 (0, 0)) ∧ W.ownsRow (W2.heap.size + 2) 165 2 (.slice Aq pre.length cq) pre.length (flat wdC pre) ∧ Below w.heap.size w W ∧ w.heap.size + 1 ≤ W.heap.size)
    (fun _ _ _ => False)
    ?hI ?hIx ?hIS ⟨none, 0, g1, World.ownsRow_nil _ _ _ _, hb2, by omega⟩
    (fun x b W => W2.heap.size + 2 ≤ b ∧ W.heap[b]? = some (.cells #[.string x.1, .int .i64 (x.2 : Int)] 165 (0, 0)))
    ?hAp (fun x b => { tmps := #[.slice none 0 0, .func (.func 187) #[] #[.pointer (some ⟨bs, 0, none⟩)], .pointer (some ⟨w.heap.size, 0, none⟩), undef, .slice none 0 0, .pointer (some ⟨b, 0, none⟩), .func (.func 187) #[] #[.pointer (some ⟨bs, 0, none⟩)], .agg #[.string x.1, .int .i64 (x.2 : Int)], undef, undef, undef, undef, undef], defers := [] }) ?assign ?body ?done ?stop
  case hAp =>
    rintro x b W l r o hl ⟨hb, hw⟩
    exact ⟨hb, (World.putObj_heap_other (fun e => by subst e; rw [hl] at hw; cases hw)).trans hw⟩
  case hI =>
    rintro pre A C row ⟨Aq, cq, h0, h1, h2, h3⟩ hg hr
    refine ⟨Aq, cq, one_grown h0 hg (fun e => ?_), h1.kept hg ?_, h2.grown hg h2.size (fun k e => ?_), Nat.le_trans h3 hg.size⟩
    · have := (hr _ e.symm).1; omega
    · cases hv : (Value.slice Aq pre.length cq).ownBlock with
      | none => exact .inl rfl
      | some k =>
        refine .inr fun e => ?_
        obtain ⟨_, cur, hcur⟩ := own_row h1 hv
        obtain ⟨_, o, ho, hc⟩ := hr _ e.symm
        rw [hcur] at ho; cases ho; cases hc
    · have := (hr _ e).1; omega
  case hIx => rintro c pre A C row hf _ _; exact hf
  case hIS => rintro pre A C h rfl; exact h
  case stop => rintro D c pre W hD hS hf hK; exact hf.elim
  case assign =>
    intro l pre y W K hWz hI hK
    obtain ⟨Aq, cq, h0, h1, h2, h3⟩ := hI
    have HKK := Lib.hid hK
    have H1 := Lib.hid h1; have H2 := Lib.hid h2; have Hh0 := Lib.hid h0
    clear hK g1 hb2 h1 h2 h0
    simp only [wdV]
    gi_wp2
    refine HKK.out W.heap.size _ ?_ ?_ ?_ ?_
    · exact ⟨Below.heap_alloc _ _ _ (by omega), Below.heap_alloc _ _ _ (by omega)⟩
    · exact Below.heap_alloc _ _ _ (by omega)
    · exact ⟨Aq, cq, (Below.heap_alloc _ _ _ (by omega)).trans Hh0.out, H1.out.kept (World.grownBy_alloc W _ none) (by cases hv : (Value.slice Aq pre.length cq).ownBlock with | none => exact .inl rfl | some k => exact .inr (by simp)), H2.out.alloc (by omega) _, by simp; omega⟩
    · exact ⟨by omega, World.alloc_heap_new W _⟩
  case body =>
    rintro l pre y b W ⟨ap, hpf⟩ hWz ⟨Aq, cq, h0, h1, h2, h3⟩ ⟨hbb, hyb⟩
    have c0 := cell_of_one h0
    have f0 := free_of_one h0
    have hy : Bk W b 165 #[.string y.1, .int .i64 (y.2 : Int)] := hyb
    have y0 : W.cell? ⟨b, 0, none⟩ = some (.string y.1) := hy.cell 0
    have y1 : W.cell? ⟨b, 1, none⟩ = some (.int .i64 (y.2 : Int)) := hy.cell 1
    have H0' := Lib.hid h0; have H1 := Lib.hid h1; have H2 := Lib.hid h2
    have hpl : pre.length + 1 ≤ s.size := by have := hpf.len; have := hpf.le; simp at *; omega
    obtain ⟨y, ky⟩ := y
    obtain ⟨i0, hi, hz0, hz1', hz2'⟩ := info_parts infoWord
    have Hi := Lib.hid hi; have Hz0 := Lib.hid hz0; have Hz1 := Lib.hid hz1'; have Hz2 := Lib.hid hz2'
    clear h0 h1 h2 g1 g0 hb2 hpf hi hz0 hz1' hz2' hyb hy
    gi_wp2_with (gi_at_builtin; refine halt_ ?_)
    refine unhalt ?_
    refine wpListIn_append_sl (base := W2.heap.size + 2) (size := 2) rfl (.tmp 8) (.tmp 10) 162 rfl 165 i0 _ 24 Tryz.underlying162 Hi.out Hz0.out Hz1.out Hz2.out rfl (by decide) (.slice Aq pre.length cq) pre.length (flat wdC pre) rfl ?own (W.heap.size + 1) _ 1 _ (wdC (y, ky)) rfl ?nw (by simp [wdC, Value.oneCell']) ?l1 ?l2 ?l3 ?_
    case own => exact H1.out.kept (World.grownBy_alloc W _ none) (by cases hv : (Value.slice Aq pre.length cq).ownBlock with | none => exact .inl rfl | some k => exact .inr (by simp))
    case nw => exact ⟨rfl, fun _ => ⟨W.heap.size, 0, rfl, Nat.lt_succ_self _, fun j u hu => by have := new_cell2 W 165 (.string y) (.int .i64 (ky : Int)) j u hu; rwa [Addr.add_lit] at this⟩⟩
    case l1 => unfold maxLen; omega
    case l2 => omega
    case l3 => simp; omega
    intro A4 c4 w4 ho4 hg4 hc41 hc42
    have HO4 : Hid (w4.ownsRow (W2.heap.size + 2) 165 2 (.slice A4 (pre.length + 1) c4) (pre.length + 1) (flat wdC (pre ++ [(y, ky)]))) := by
      show World.ownsRow _ _ _ _ _ _ _
      have e : flat wdC (pre ++ [(y, ky)]) = flat wdC pre ++ wdC (y, ky) := by simp [flat]
      rw [e]; exact ho4
    have HGE : Hid (∀ k, (Value.slice Aq pre.length cq).ownBlock = some k → W2.heap.size + 2 ≤ k ∧ ∃ cur, W.heap[k]? = some (.cells cur 165 (0, 0))) := fun k hk => own_row H1.out hk
    have HX4 : Hid (w4.heap[w.heap.size]? = some (.cells #[.slice Aq pre.length cq] 162 (0, 0))) := one_grown ((Below.heap_alloc W _ _ (by omega)).trans H0'.out) hg4 (fun e => by have := (HGE.out _ e.symm).1; omega)
    have c4' := cell_of_one HX4.out
    have f4' := free_of_one HX4.out
    have hz4 : W.heap.size + 1 ≤ w4.heap.size := by have := hg4.size; simp at this; omega
    have HB4 : Hid (Below w.heap.size w w4) := (H2.out.alloc (by omega) _).grown hg4 (by simp; omega) (fun k hk => by have := (HGE.out k hk).1; omega)
    have HK4 : Hid (∀ k, k < W2.heap.size + 2 → k ≠ w.heap.size → (w4.setCell ⟨w.heap.size, 0, none⟩ (.slice A4 (pre.length + 1) c4)).heap[k]? = W.heap[k]?) := fun k hk hne => (Below.heap_setCell _ _ _ _ hne).trans ((hg4.block k (by simp; omega) (fun e => by have := (HGE.out _ e.symm).1; omega)).trans (Below.heap_alloc W _ _ (by omega)))
    clear ho4 hg4 c0 f0
    gi_wp2
    refine ⟨⟨HK4.out _ (by omega) (by omega), HK4.out _ (by omega) (by omega)⟩, HK4.out _ (by omega) (by omega), A4, c4, ?_, ?_, ?_, ?_⟩
    · rw [List.length_append]; exact one_setCell HX4.out
    · rw [List.length_append]; exact ownsRow_setCell_below HO4.out (by simp; omega) _
    · exact HB4.out.setCell (p := ⟨w.heap.size, 0, none⟩) (by simp) _
    · simp; omega
  case done =>
    rintro D xs W hD hS ⟨Aq, cq, h0, h1, h2, h3⟩ hK
    have c0 := cell_of_one h0
    have H1 := Lib.hid h1; have HK := Lib.hid hK; have H2 := Lib.hid h2; have HS := Lib.hid hS
    clear h0 h1 h2 hK hS g1 g0 hb2
    gi_wp2
    refine ⟨by simp, .inl ⟨_, _, rfl, run_takeDeferred HK.out, ?_⟩⟩
    have HBE : Hid (Below w.heap.size w (W.putObj D (.deferred none))) := H2.out.grown (grownBy_putObj' _ _ _) H2.out.size (fun k e => by cases e; omega)
    obtain ⟨_, _, hform, hl1, hl2⟩ := ownsRow_form H1.out
    injection hform with _ _ hcc
    subst hcc
    obtain ⟨q, hq⟩ := wdF_sz HS.out
    refine ⟨_, results_tmp rfl _ _ _, Aq, cq, xs, rfl, HS.out, q, hq, hl1, hl2, ?_, HBE.out⟩
    exact Sl.of_own (own_keep H1.out (fun k hk => World.putObj_heap_other (fun e => by
      obtain ⟨_, cur, h6⟩ := own_row H1.out hk
      subst e
      rw [HK.out] at h6; cases h6)))
theorem words_any (s : ByteArray) (w : World) :
    Calls Tryz.prog 136 #[.string s] w fun e w' => e = .returned (.func (.func 187) #[] #[.pointer (some ⟨w.heap.size, 0, none⟩)]) ∧ w' = w.alloc (.cells #[.string s] 9) := by
  go_enter Tryz.func136, Tryz.ntmps136
  go_wp2_with fail
  go_ret
  exact ⟨rfl, rfl⟩
def ColEnd (s : ByteArray) (w : World) (e : Ending) (w' : World) : Prop :=
  ∃ A c ws, e = .returned (.slice A ws.length c) ∧ WdF s 0 ws ∧ (∀ x ∈ ws, x.1.size ≤ s.size ∧ x.2 ≤ s.size) ∧ ws.length ≤ s.size ∧ ws.length ≤ c ∧ c ≤ maxLen ∧ Sl w' w'.heap.size 2 A ws.length (flat wdC ws) ∧ Below w.heap.size w w'
theorem collect_any (bs : Nat) (s : ByteArray) (w : World) (hs : s.size ≤ 1000000) (h0 : w.heap[bs]? = some (.cells #[.string s] 9 (0, 0))) :
    Calls Tryz.prog 135 #[.func (.func 187) #[] #[.pointer (some ⟨bs, 0, none⟩)]] w (ColEnd s w) := by
  have HA := Lib.hid (appendSeq_any bs s w hs h0)
  clear h0
  go_enter Tryz.func135, Tryz.ntmps135
  go_wp2_with (go_at_call 186; refine HA.out.mono ?_; rintro e w1 ⟨A, c, ws, rfl, h⟩; have HH := Lib.hid h; clear h)
  go_ret
  exact ⟨A, c, ws, rfl, HH.out⟩
end Go.Proofs.YtddlohbhchjjhaaGreatDoor

namespace Go.Proofs.YtddlohbhchjjhaaGreatDoor
open Go.RowKit Go.Shelf
attribute [local go_sem] Oper.semAt_some

abbrev Wd := ByteArray × Nat
structure BelowX (rb : Nat) (w w' : World) : Prop where
  below : Below rb w w'
  size : w.heap.size ≤ w'.heap.size
  blk : ∀ k, rb < k → k < w.heap.size → w'.heap[k]? = w.heap[k]?
theorem BelowX.refl (rb : Nat) (w : World) (h : rb ≤ w.heap.size) : BelowX rb w w := ⟨(Below.refl _ w).mono h, Nat.le_refl _, fun _ _ _ => rfl⟩
theorem BelowX.trans {rb : Nat} {a b c : World} (h : BelowX rb a b) (g : BelowX rb b c) : BelowX rb a c :=
  ⟨h.below.trans g.below, Nat.le_trans h.size g.size, fun k h1 h2 => (g.blk k h1 (Nat.lt_of_lt_of_le h2 h.size)).trans (h.blk k h1 h2)⟩
theorem BelowX.of_below {rb : Nat} {w w' : World} (h : Below w.heap.size w w') (hr : rb ≤ w.heap.size) : BelowX rb w w' := ⟨h.mono hr, h.size, fun k _ h2 => h.block k h2⟩
theorem BelowX.setCell {rb : Nat} {w w' : World} (h : BelowX rb w w') (i : Nat) (u : Value) : BelowX rb w (w'.setCell ⟨rb, i, none⟩ u) :=
  ⟨h.below.setCell (Nat.le_refl _) u, by simpa using h.size, fun k h1 h2 => (Below.heap_setCell _ _ _ _ (by simp; omega)).trans (h.blk k h1 h2)⟩

structure Rdr (W : World) (rb : Nat) (A : Option Addr) (n c : Nat) (ws : List Wd) (r : Tg) : Prop where
  blk : Bk W rb 170 #[.slice A n c, .int .i64 r.kind, .string r.lab, .slice r.dA r.dn r.dc, .slice r.vA r.vn r.vc]
  sl : Sl W rb 2 A n (flat wdC ws)
  le : n ≤ c
  max : c ≤ maxLen
theorem Rdr.len {W : World} {rb : Nat} {A : Option Addr} {n c : Nat} {ws : List Wd} {r : Tg} (h : Rdr W rb A n c ws r) : ws.length = n := h.sl.len wdC_len (by omega)
structure TgX (W : World) (rb : Nat) (r : Tg) : Prop where
  d : W.ownsRow (rb + 1) 9 1 (.slice r.dA r.dn r.dc) r.dn (strs r.deps)
  v : W.ownsRow (rb + 1) 9 1 (.slice r.vA r.vn r.vc) r.vn (strs r.vis)
  ls : r.lab.size ≤ maxLen
  ds : ∀ s ∈ r.deps, s.size ≤ maxLen
  vs : ∀ s ∈ r.vis, s.size ≤ maxLen
theorem TgX.step {W W' : World} {rb : Nat} {r : Tg} (h : TgX W rb r) (hb : BelowX rb W W') : TgX W' rb r := by
  have key : ∀ {v : Value} {n : Nat} {xs : List Value}, W.ownsRow (rb + 1) 9 1 v n xs → W'.ownsRow (rb + 1) 9 1 v n xs := fun hr =>
    own_keep hr (fun k hk => by
      obtain ⟨h1, cur, h2⟩ := own_row hr hk
      exact hb.blk k (by omega) (Array.getElem?_eq_some_iff.1 h2).1)
  exact ⟨key h.d, key h.v, h.ls, h.ds, h.vs⟩
theorem TgX.ok {W : World} {rb : Nat} {r : Tg} (h : TgX W rb r) : TgOk W W.heap.size r := by
  obtain ⟨dn, dc, hf, h1, h2⟩ := ownsRow_form h.d
  obtain ⟨vn, vc, hf', h3, h4⟩ := ownsRow_form h.v
  injection hf with _ _ e1
  injection hf' with _ _ e2
  exact ⟨Sl.of_own h.d, by omega, by omega, Sl.of_own h.v, by omega, by omega, h.ls, h.ds, h.vs⟩
abbrev Ct := Int × ByteArray × List ByteArray × List ByteArray
def ct (r : Tg) : Ct := (r.kind, r.lab, r.deps, r.vis)

def nxtW : List Wd → ByteArray
  | [] => ⟨#[]⟩
  | x :: _ => x.1
def libW : ByteArray := ⟨#[108, 105, 98]⟩
def testW : ByteArray := ⟨#[116, 101, 115, 116]⟩
def semiW : ByteArray := ⟨#[59]⟩
set_option maxHeartbeats 400000 in
theorem next_any (rb : Nat) (A : Option Addr) (n c : Nat) (ws : List Wd) (r : Tg) (w : World) (h : Rdr w rb A n c ws r) :
    Calls Tryz.prog 189 #[.pointer (some ⟨rb, 0, none⟩)] w fun e w' => e = .returned (.string (nxtW ws)) ∧ w = w' := by
  have hl := h.len
  have c0 := h.blk.cell 0
  simp only [List.getElem?_toArray, List.getElem?_cons_zero] at c0
  have HS := Lib.hid h.sl
  clear h
  cases ws with
  | nil =>
    simp at hl
    subst hl
    go_enter Tryz.func189, Tryz.ntmps189
    go_wp2
    go_ret
    exact ⟨rfl, rfl⟩
  | cons x ws =>
    simp at hl
    subst hl
    obtain ⟨b, off, y, rfl, hb, hy, hc⟩ := HS.out.at_ (k := 0) wdC_len (by omega) (by omega)
    simp at hy
    subst hy
    have c1 := hc 0 _ rfl
    simp only [Nat.zero_mul, Nat.add_zero] at c1
    have hz : ((ws.length + 1 : Nat) : Int) ≠ 0 := by omega
    clear hc
    go_enter Tryz.func189, Tryz.ntmps189
    go_wp2
    go_ret
    exact ⟨rfl, rfl⟩
theorem Rdr.cut {W : World} {rb : Nat} {A : Option Addr} {n c : Nat} {x : Wd} {ws : List Wd} {r : Tg} (h : Rdr W rb A n c (x :: ws) r) :
    ∃ A1, (∀ w' : World, (Instr.sliceAt 162 (.slice A n c) (some (.int .i64 1)) none none).run Tryz.prog w' = .ok (.slice A1 (n - 1) (c - 1)) w') ∧ ∀ (w' : World), BelowX rb W w' → w' = W.setCell ⟨rb, 0, none⟩ (.slice A1 (n - 1) (c - 1)) → Rdr w' rb A1 (n - 1) (c - 1) ws r := by
  have hl := h.len
  simp at hl
  obtain ⟨i0, hi, _, hz1, _⟩ := info_parts infoWord
  obtain ⟨A1, h1, h2⟩ := run_slice_from (P := Tryz.prog) 162 i0 Tryz.underlying162 hi hz1 A n c 1 (by omega) h.le
  refine ⟨A1, h1, fun w' hb e => ?_⟩
  subst e
  refine ⟨?_, ?_, by have := h.le; omega, by have := h.max; omega⟩
  · have := h.blk.set 0 (.slice A1 (n - 1) (c - 1))
    simpa using this
  · have := h2 _ _ _ h.sl
    exact Sl.setCell (by simpa [flat, wdC] using this) (Nat.le_refl _) _
theorem Rdr.keepw {W W' : World} {rb : Nat} {A : Option Addr} {n c : Nat} {ws : List Wd} {r r' : Tg} (h : Rdr W rb A n c ws r) (hb : BelowX rb W W') (hk : Bk W' rb 170 #[.slice A n c, .int .i64 r'.kind, .string r'.lab, .slice r'.dA r'.dn r'.dc, .slice r'.vA r'.vn r'.vc]) : Rdr W' rb A n c ws r' :=
  ⟨hk, h.sl.below hb.below (Nat.le_refl _), h.le, h.max⟩
def SkpEnd (rb : Nat) (t : ByteArray) (ws : List Wd) (r : Tg) (w : World) (e : Ending) (w' : World) : Prop :=
  e = .returned (.bool (decide (nxtW ws = t))) ∧ ∃ A n c, Rdr w' rb A n c (if nxtW ws = t then ws.tail else ws) r ∧ BelowX rb w w'
set_option maxHeartbeats 400000 in
theorem skip_any (rb : Nat) (A : Option Addr) (n c : Nat) (ws : List Wd) (r : Tg) (t : ByteArray) (w : World) (h : Rdr w rb A n c ws r) (ht : t ≠ ⟨#[]⟩) :
    Calls Tryz.prog 188 #[.pointer (some ⟨rb, 0, none⟩), .string t] w (SkpEnd rb t ws r w) := by
  have hrb := h.blk.lt
  have HN := Lib.hid (next_any rb A n c ws r w h)
  have c0 := h.blk.cell 0
  have f0 := h.blk.free 0
  simp only [List.getElem?_toArray, List.getElem?_cons_zero] at c0
  have H := Lib.hid h
  clear h
  by_cases hx : nxtW ws = t
  · cases ws with
    | nil => exact absurd hx.symm ht
    | cons x ws =>
      obtain ⟨A1, hsl, hR⟩ := H.out.cut
      have HR := Lib.hid (hR _ ((BelowX.refl rb w (by omega)).setCell _ _) rfl)
      have HX := Lib.hid hx
      have hne : ((nxtW (x :: ws)).toList == t.toList) = true := by rw [str_dec]; simp [hx]
      clear hx hR
      go_enter Tryz.func188, Tryz.ntmps188
      go_wp2_with (go_at_call 189; refine HN.out.mono ?_; rintro e w1 ⟨rfl, rfl⟩)
      go_ret
      exact ⟨ret_bool (by simp [HX.out]), A1, n - 1, c - 1, by rw [if_pos HX.out]; exact HR.out, (BelowX.refl rb w (by omega)).setCell _ _⟩
  · have HX := Lib.hid hx
    have hne : ((nxtW ws).toList == t.toList) = false := by rw [str_dec]; simp [hx]
    clear hx
    go_enter Tryz.func188, Tryz.ntmps188
    go_wp2_with (go_at_call 189; refine HN.out.mono ?_; rintro e w1 ⟨rfl, rfl⟩)
    go_ret
    exact ⟨ret_bool (by simp [HX.out]), A, n, c, by rw [if_neg HX.out]; exact H.out, BelowX.refl rb w (by omega)⟩

def elW (v : ByteArray → Bool) : List Wd → List ByteArray × List Wd
  | [] => ([], [])
  | x :: ws => if v x.1 then (x.1 :: (elW v ws).1, (elW v ws).2) else ([], x :: ws)
def optW (t : ByteArray) (v : ByteArray → Bool) (ws : List Wd) : Bool × List ByteArray × List Wd :=
  if nxtW ws = t then (decide (0 < (elW v ws.tail).1.length), elW v ws.tail) else (true, [], ws)
def partW : Nat → List Wd → Ct → Bool × List Wd × Ct
  | 0, ws, _ => if nxtW ws = libW then (true, ws.tail, (1, ⟨#[]⟩, [], [])) else (decide (nxtW ws = testW), (if nxtW ws = testW then ws.tail else ws), (2, ⟨#[]⟩, [], []))
  | 1, ws, (k, _, d, v) => (freB (nxtW ws), (if freB (nxtW ws) then ws.tail else ws), (k, nxtW ws, d, v))
  | 2, ws, (k, l, _, v) => ((optW depsW frlB ws).1, (optW depsW frlB ws).2.2, (k, l, (optW depsW frlB ws).2.1, v))
  | 3, ws, (k, l, d, _) => ((optW visibleW viewB ws).1, (optW visibleW viewB ws).2.2, (k, l, d, (optW visibleW viewB ws).2.1))
  | _, ws, r => (decide (nxtW ws = semiW), (if nxtW ws = semiW then ws.tail else ws), r)
def PrtEnd (rb : Nat) (p : Bool × List Wd × Ct) (w : World) (e : Ending) (w' : World) : Prop :=
  e = .returned (.bool p.1) ∧ ∃ A n c r, Rdr w' rb A n c p.2.1 r ∧ ct r = p.2.2 ∧ TgX w' rb r ∧ BelowX rb w w'
theorem tgX_zero (W : World) (rb : Nat) (k : Int) : TgX W rb ⟨⟨#[]⟩, k, none, 0, 0, [], none, 0, 0, []⟩ :=
  ⟨World.ownsRow_nil _ _ _ _, World.ownsRow_nil _ _ _ _, (by show (0 : Nat) ≤ _; exact Nat.zero_le _), (fun s h => by cases h), (fun s h => by cases h)⟩
set_option maxHeartbeats 400000 in
theorem end_any (rb : Nat) (A : Option Addr) (n c : Nat) (ws : List Wd) (r : Tg) (w : World) (h : Rdr w rb A n c ws r) (hx : TgX w rb r) :
    Calls Tryz.prog 141 #[.pointer (some ⟨rb, 0, none⟩)] w (PrtEnd rb (partW 4 ws (ct r)) w) := by
  have HS := Lib.hid (skip_any rb A n c ws r semiW w h (by decide))
  have HX := Lib.hid hx
  clear h hx
  go_enter Tryz.func141, Tryz.ntmps141
  go_wp2_with (go_at_call 188; refine HS.out.mono ?_; rintro e w1 ⟨rfl, A1, n1, c1, hr, hb⟩)
  go_ret
  exact ⟨rfl, A1, n1, c1, r, hr, rfl, HX.out.step hb, hb⟩
set_option maxHeartbeats 1000000 in
theorem kind_any (rb : Nat) (A : Option Addr) (n c : Nat) (ws : List Wd) (r : Tg) (w : World) (h : Rdr w rb A n c ws r) :
    Calls Tryz.prog 137 #[.pointer (some ⟨rb, 0, none⟩)] w (PrtEnd rb (partW 0 ws (ct r)) w) := by
  have hrb := h.blk.lt
  have c0 := h.blk.cell 0; have f0 := h.blk.free 0
  have c1 := h.blk.cell 1; have f1 := h.blk.free 1
  have c2 := h.blk.cell 2; have f2 := h.blk.free 2
  have c3 := h.blk.cell 3; have f3 := h.blk.free 3
  have c4 := h.blk.cell 4; have f4 := h.blk.free 4
  simp only [List.getElem?_toArray, List.getElem?_cons_zero, List.getElem?_cons_succ] at c0 c1 c2 c3 c4
  obtain ⟨W1, hW1⟩ : ∃ W1, (((w.setCell ⟨rb, 1, none⟩ (.int .i64 1)).setCell ⟨rb, 2, none⟩ (.string ⟨#[]⟩)).setCell ⟨rb, 3, none⟩ (.slice none 0 0)).setCell ⟨rb, 4, none⟩ (.slice none 0 0) = W1 := ⟨_, rfl⟩
  have hB1 : BelowX rb w W1 := by rw [← hW1]; exact ((((BelowX.refl rb w (by omega)).setCell _ _).setCell _ _).setCell _ _).setCell _ _
  have hR1 : Rdr W1 rb A n c ws ⟨⟨#[]⟩, 1, none, 0, 0, [], none, 0, 0, []⟩ := h.keepw hB1 (by
    rw [← hW1]
    have := (((h.blk.set 1 (.int .i64 1)).set 2 (.string ⟨#[]⟩)).set 3 (.slice none 0 0)).set 4 (.slice none 0 0)
    simpa using this)
  have HS := Lib.hid (skip_any rb A n c ws _ libW W1 hR1 (by decide))
  have HB1 := Lib.hid hB1
  have HW1 := Lib.hid hW1
  clear h hB1 hR1 hW1
  go_enter Tryz.func137, Tryz.ntmps137
  go_wp2_with (go_at_call 188; rw [HW1.out]; refine HS.out.mono ?_; rintro e w1 ⟨rfl, A1, n1, q1, hr, hb⟩; refine halt_ ?_)
  refine unhalt ?_
  have HR := Lib.hid hr; have HB := Lib.hid (HB1.out.trans hb)
  have d1 := hr.blk.cell 1; have g1 := hr.blk.free 1
  simp only [List.getElem?_toArray, List.getElem?_cons_zero, List.getElem?_cons_succ] at d1
  have hrb1 := hr.blk.lt
  clear hr hb HS c0 c1 c2 c3 c4 f0 f1 f2 f3 f4
  by_cases hx : nxtW ws = libW
  · have HX := Lib.hid hx
    have hd : decide (nxtW ws = libW) = true := by simp [hx]
    have HP : Hid (partW 0 ws (ct r) = (true, ws.tail, (1, ⟨#[]⟩, [], []))) := if_pos hx
    have HR2 : Hid (Rdr w1 rb A1 n1 q1 ws.tail ⟨⟨#[]⟩, 1, none, 0, 0, [], none, 0, 0, []⟩) := by have := HR.out; rw [if_pos hx] at this; exact this
    clear hx
    go_wp2_with fail
    go_ret
    rw [HP.out]
    exact ⟨rfl, A1, n1, q1, _, HR2.out, rfl, tgX_zero _ _ _, HB.out⟩
  · have HX := Lib.hid hx
    have hd : decide (nxtW ws = libW) = false := by simp [hx]
    have HP : Hid (partW 0 ws (ct r) = (decide (nxtW ws = testW), (if nxtW ws = testW then ws.tail else ws), (2, ⟨#[]⟩, [], []))) := if_neg hx
    have hB2 : BelowX rb w1 (w1.setCell ⟨rb, 1, none⟩ (.int .i64 2)) := (BelowX.refl rb w1 (by omega)).setCell _ _
    have hR2 : Rdr (w1.setCell ⟨rb, 1, none⟩ (.int .i64 2)) rb A1 n1 q1 ws ⟨⟨#[]⟩, 2, none, 0, 0, [], none, 0, 0, []⟩ := by
      have := HR.out; rw [if_neg hx] at this
      refine this.keepw hB2 ?_
      have h2 := this.blk.set 1 (.int .i64 2)
      simpa using h2
    have HS2 := Lib.hid (skip_any rb A1 n1 q1 ws _ testW _ hR2 (by decide))
    have HB2 := Lib.hid (HB.out.trans hB2)
    clear hx hB2 hR2 HR
    go_wp2_with (go_at_call 188; refine HS2.out.mono ?_; rintro e w2 ⟨rfl, A2, n2, c2, hr2, hb2⟩)
    go_ret
    rw [HP.out]
    exact ⟨rfl, A2, n2, c2, _, hr2, rfl, tgX_zero _ _ _, HB2.out.trans hb2⟩
set_option maxHeartbeats 1000000 in
theorem name_any (rb : Nat) (A : Option Addr) (n c : Nat) (ws : List Wd) (r : Tg) (w : World) (h : Rdr w rb A n c ws r) (hx : TgX w rb r) (hs : ∀ x ∈ ws, x.1.size ≤ maxLen) :
    Calls Tryz.prog 138 #[.pointer (some ⟨rb, 0, none⟩)] w (PrtEnd rb (partW 1 ws (ct r)) w) := by
  have hrb := h.blk.lt
  have hns : (nxtW ws).size ≤ maxLen := by
    cases ws with
    | nil => exact Nat.zero_le _
    | cons x ws => exact hs x (by simp)
  have c2 := h.blk.cell 2; have f2 := h.blk.free 2
  simp only [List.getElem?_toArray, List.getElem?_cons_zero, List.getElem?_cons_succ] at c2
  have HN := Lib.hid (next_any rb A n c ws r w h)
  obtain ⟨r1, hr1⟩ : ∃ r1 : Tg, r1 = { r with lab := nxtW ws } := ⟨_, rfl⟩
  obtain ⟨W1, hW1⟩ : ∃ W1, w.setCell ⟨rb, 2, none⟩ (.string (nxtW ws)) = W1 := ⟨_, rfl⟩
  have hB1 : BelowX rb w W1 := by rw [← hW1]; exact (BelowX.refl rb w (by omega)).setCell _ _
  have hR1 : Rdr W1 rb A n c ws r1 := h.keepw hB1 (by
    rw [← hW1, hr1]
    have := h.blk.set 2 (.string (nxtW ws))
    simpa using this)
  have hX1 : TgX W1 rb r1 := by
    have := hx.step hB1
    rw [hr1]
    exact ⟨this.d, this.v, hns, this.ds, this.vs⟩
  have HC : Hid (ct r1 = (r.kind, nxtW ws, r.deps, r.vis)) := by rw [hr1]; rfl
  have HP : Hid (partW 1 ws (ct r) = (freB (nxtW ws), (if freB (nxtW ws) then ws.tail else ws), (r.kind, nxtW ws, r.deps, r.vis))) := rfl
  have d2 := hR1.blk.cell 2
  simp only [List.getElem?_toArray, List.getElem?_cons_zero, List.getElem?_cons_succ] at d2
  have e2 : r1.lab = nxtW ws := by rw [hr1]
  rw [e2] at d2
  have HB1 := Lib.hid hB1; have HR1 := Lib.hid hR1; have HX1 := Lib.hid hX1
  have hW2 : W1.heap.size = w.heap.size := by rw [← hW1]; simp
  clear h hx hB1 hR1 hX1 hr1 e2
  obtain ⟨nm, hnm⟩ : ∃ nm, nxtW ws = nm := ⟨_, rfl⟩
  have HNM := Lib.hid hnm
  rw [hnm] at HP HC hns d2 HN hW1
  have HF := Lib.hid (freeName_any nm W1 hns)
  cases hf : freB nm with
  | false =>
    rw [hf] at HF HP
    have HW1 := Lib.hid hW1
    clear hf hnm hW1
    go_enter Tryz.func138, Tryz.ntmps138
    go_wp2_with (go_at_call 189; refine HN.out.mono ?_; rintro e w1 ⟨rfl, rfl⟩; refine halt_ ?_)
    refine unhalt ?_
    go_wp2_with (go_at_call 163; rw [HW1.out]; refine HF.out.mono ?_; rintro e w2 ⟨rfl, hb2⟩)
    go_ret
    have hbx := BelowX.of_below (rb := rb) hb2 (by omega)
    rw [HP.out]
    exact ⟨rfl, A, n, c, r1, HR1.out.keepw hbx (HR1.out.blk.below hb2 (by omega)), HC.out, HX1.out.step hbx, HB1.out.trans hbx⟩
  | true =>
    have hne : nm ≠ ⟨#[]⟩ := fun e => by subst e; revert hf; decide
    rw [hf] at HF HP
    have HW1 := Lib.hid hW1
    clear hf hW1
    go_enter Tryz.func138, Tryz.ntmps138
    clear hnm
    go_wp2_with (go_at_call 189; refine HN.out.mono ?_; rintro e w1 ⟨rfl, rfl⟩; refine halt_ ?_)
    refine unhalt ?_
    go_wp2_with (go_at_call 163; rw [HW1.out]; refine HF.out.mono ?_; rintro e w2 ⟨rfl, hb2⟩; refine halt_ ?_)
    refine unhalt ?_
    have hbx := BelowX.of_below (rb := rb) hb2 (by omega)
    have HR2 : Hid (Rdr w2 rb A n c ws r1) := HR1.out.keepw hbx (HR1.out.blk.below hb2 (by omega))
    have HB2 : Hid (BelowX rb w w2) := HB1.out.trans hbx
    have HX2 : Hid (TgX w2 rb r1) := HX1.out.step hbx
    have d2 := HR2.out.blk.cell 2
    simp only [List.getElem?_toArray, List.getElem?_cons_zero, List.getElem?_cons_succ] at d2
    have e2 : r1.lab = nm := congrArg (fun x => x.2.1) HC.out
    rw [e2] at d2
    have HS := Lib.hid (skip_any rb A n c ws r1 nm w2 HR2.out hne)
    clear hbx hb2 e2
    go_wp2_with (go_at_call 188; refine HS.out.mono ?_; rintro e w3 ⟨rfl, A3, n3, q3, hr3, hb3⟩)
    go_ret
    rw [HP.out]
    refine ⟨ret_bool (by simp [HNM.out]), A3, n3, q3, r1, ?_, HC.out, HX2.out.step hb3, HB2.out.trans hb3⟩
    rw [if_pos HNM.out] at hr3
    exact hr3
end Go.Proofs.YtddlohbhchjjhaaGreatDoor

namespace Go.Proofs.YtddlohbhchjjhaaGreatDoor

theorem kind_isT {ts : List Tg} {d : ByteArray} (h : kindOf ts d = 1) : isT ts d = true := by
  unfold kindOf at h; unfold isT
  cases hf : findT ts d with
  | none => rw [hf] at h; cases h
  | some t => rfl
theorem self_find {ts : List Tg} (h : Vld ts) {t : Tg} (ht : t ∈ ts) : findT ts t.lab = some t := by
  obtain ⟨r, hr⟩ : ∃ r, findT ts t.lab = some r := Option.isSome_iff_exists.1 ((isT_iff ts t.lab).2 (List.mem_map_of_mem ht))
  obtain ⟨h1, h2⟩ := findT_lab hr
  obtain ⟨j, hj, e1⟩ := List.getElem_of_mem h2
  obtain ⟨k, hk, e2⟩ := List.getElem_of_mem ht
  have : j = k := by
    refine (List.getElem_inj (h₀ := by simpa using hj) (h₁ := by simpa using hk) h.asc.nodup).1 ?_
    simp [e1, e2, h1]
  subst this
  rw [hr, ← e1, e2]
theorem nxT_deps {ts : List Tg} (h : Vld ts) {t : Tg} (ht : t ∈ ts) : nxT ts t.lab = t.deps := by
  unfold nxT; rw [self_find h ht]
  exact List.filter_eq_self.2 fun d hd => kind_isT ((h.all t ht).dep d hd)
def rdyB (pl : List ByteArray) (t : Tg) : Bool := !memB pl t.lab && t.deps.all (memB pl)
def ordK (ts : List Tg) : Nat → List ByteArray
  | 0 => []
  | k + 1 => match ts.find? (rdyB (ordK ts k)) with
    | none => ordK ts k
    | some t => ordK ts k ++ [t.lab]
theorem ordK_step {ts : List Tg} {k : Nat} {t : Tg} (h : ts.find? (rdyB (ordK ts k)) = some t) : ordK ts (k + 1) = ordK ts k ++ [t.lab] := by
  simp only [ordK, h]
structure Ordd (ts : List Tg) (l : List ByteArray) : Prop where
  nodup : l.Nodup
  isT : ∀ x ∈ l, isT ts x = true
  aft : ∀ k x, l[k]? = some x → ∀ d ∈ nxT ts x, d ∈ l.take k
theorem Ordd.nil (ts : List Tg) : Ordd ts [] := ⟨List.nodup_nil, (fun x h => by cases h), fun k x h => by simp at h⟩
theorem Ordd.snoc {ts : List Tg} {l : List ByteArray} (hv : Vld ts) (h : Ordd ts l) {t : Tg} (ht : t ∈ ts) (hr : rdyB l t = true) : Ordd ts (l ++ [t.lab]) := by
  unfold rdyB at hr
  simp only [Bool.and_eq_true, Bool.not_eq_true', List.all_eq_true] at hr
  obtain ⟨h1, h2⟩ := hr
  have hn : t.lab ∉ l := fun hm => by rw [(memB_iff _ _).2 hm] at h1; cases h1
  refine ⟨?_, fun x hx => ?_, fun k x hk d hd => ?_⟩
  · rw [List.nodup_append]
    exact ⟨h.nodup, by simp, fun a ha b hb => by rw [List.mem_singleton.1 hb]; rintro rfl; exact hn ha⟩
  · rcases List.mem_append.1 hx with hx | hx
    · exact h.isT x hx
    · rw [List.mem_singleton.1 hx]; exact (isT_iff ts _).2 (List.mem_map_of_mem ht)
  · rcases Nat.lt_trichotomy k l.length with hl | hl | hl
    · rw [List.getElem?_append_left hl] at hk
      rw [List.take_append_of_le_length (by omega)]
      exact h.aft k x hk d hd
    · subst hl
      simp at hk
      subst hk
      rw [nxT_deps hv ht] at hd
      simp
      exact (memB_iff _ _).1 (h2 d hd)
    · rw [List.getElem?_eq_none (by simp; omega)] at hk; cases hk
open Classical in
noncomputable def rnk (ts : List Tg) (s : ByteArray) : Nat := ((ts.map Tg.lab).filter fun y => decide (Rch (nxT ts) s y)).length
theorem rch_front {nx : ByteArray → List ByteArray} {a b c : ByteArray} (h : b ∈ nx a) (hc : Rch nx b c) : Rch nx a c := by
  obtain ⟨n, hn⟩ := hc; exact ⟨n + 1, Stp.cons h hn⟩
theorem rnk_lt {ts : List Tg} (hv : Vld ts) {s d : ByteArray} (h : d ∈ nxT ts s) : rnk ts d < rnk ts s := by
  unfold rnk
  have := nodup_len (d :: (ts.map Tg.lab).filter fun y => @decide (Rch (nxT ts) d y) (Classical.propDecidable _)) ((ts.map Tg.lab).filter fun y => @decide (Rch (nxT ts) s y) (Classical.propDecidable _)) ?_ ?_
  · exact this
  · refine List.nodup_cons.2 ⟨fun hm => ?_, hv.asc.nodup.filter _⟩
    have := (List.mem_filter.1 hm).2
    simp at this
    exact hv.free d this
  · intro x hx
    rcases List.mem_cons.1 hx with rfl | hx
    · refine List.mem_filter.2 ⟨(isT_iff ts x).1 (nxT_mem h).1, ?_⟩
      simp; exact Rch.one h
    · obtain ⟨h1, h2⟩ := List.mem_filter.1 hx
      simp at h2
      refine List.mem_filter.2 ⟨h1, ?_⟩
      simp; exact rch_front h h2
theorem ord_some {ts : List Tg} (hv : Vld ts) {l : List ByteArray} {t : Tg} (ht : t ∈ ts) (hn : t.lab ∉ l) : ∃ u, ts.find? (rdyB l) = some u := by
  have key : ∀ m, ∀ t ∈ ts, t.lab ∉ l → rnk ts t.lab ≤ m → ∃ u ∈ ts, rdyB l u = true := by
    intro m
    induction m with
    | zero =>
      intro t ht hn hm
      by_cases hd : ∀ d ∈ t.deps, d ∈ l
      · refine ⟨t, ht, ?_⟩
        unfold rdyB
        simp only [Bool.and_eq_true, Bool.not_eq_true', List.all_eq_true]
        refine ⟨?_, fun d h => (memB_iff _ _).2 (hd d h)⟩
        cases hb : memB l t.lab with
        | false => rfl
        | true => exact absurd ((memB_iff _ _).1 hb) hn
      · obtain ⟨d, hd1, hd2⟩ : ∃ d ∈ t.deps, d ∉ l := by
          refine Classical.byContradiction fun hc => hd fun d h => Classical.byContradiction fun h' => hc ⟨d, h, h'⟩
        have := rnk_lt hv (s := t.lab) (d := d) (by rw [nxT_deps hv ht]; exact hd1)
        omega
    | succ m ih =>
      intro t ht hn hm
      by_cases hd : ∀ d ∈ t.deps, d ∈ l
      · refine ⟨t, ht, ?_⟩
        unfold rdyB
        simp only [Bool.and_eq_true, Bool.not_eq_true', List.all_eq_true]
        refine ⟨?_, fun d h => (memB_iff _ _).2 (hd d h)⟩
        cases hb : memB l t.lab with
        | false => rfl
        | true => exact absurd ((memB_iff _ _).1 hb) hn
      · obtain ⟨d, hd1, hd2⟩ : ∃ d ∈ t.deps, d ∉ l := by
          refine Classical.byContradiction fun hc => hd fun d h => Classical.byContradiction fun h' => hc ⟨d, h, h'⟩
        have h1 := rnk_lt hv (s := t.lab) (d := d) (by rw [nxT_deps hv ht]; exact hd1)
        obtain ⟨u, hu, e⟩ := List.mem_map.1 ((isT_iff ts d).1 (kind_isT ((hv.all t ht).dep d hd1)))
        exact ih u hu (by rw [e]; exact hd2) (by rw [e]; omega)
  obtain ⟨u, hu, hr⟩ := key _ t ht hn (Nat.le_refl _)
  have := List.find?_isSome.2 ⟨u, hu, hr⟩
  exact Option.isSome_iff_exists.1 this
theorem ordK_ordd {ts : List Tg} (hv : Vld ts) : ∀ k, Ordd ts (ordK ts k)
  | 0 => Ordd.nil ts
  | k + 1 => by
    cases hf : ts.find? (rdyB (ordK ts k)) with
    | none => simp only [ordK, hf]; exact ordK_ordd hv k
    | some t => rw [ordK_step hf]; exact (ordK_ordd hv k).snoc hv (List.mem_of_find?_eq_some hf) (List.find?_some hf)
theorem ord_next {ts : List Tg} (hv : Vld ts) {l : List ByteArray} (h : l.length < ts.length) : ∃ u, ts.find? (rdyB l) = some u := by
  by_cases hx : ∃ t ∈ ts, t.lab ∉ l
  · obtain ⟨t, ht, hn⟩ := hx
    exact ord_some hv ht hn
  · have := nodup_len (ts.map Tg.lab) l hv.asc.nodup fun x hx' => by
      obtain ⟨t, ht, rfl⟩ := List.mem_map.1 hx'
      exact Classical.byContradiction fun hc => hx ⟨t, ht, hc⟩
    simp at this
    omega
theorem ordK_len {ts : List Tg} (hv : Vld ts) : ∀ k, k ≤ ts.length → (ordK ts k).length = k
  | 0, _ => rfl
  | k + 1, h => by
    have ih := ordK_len hv k (by omega)
    obtain ⟨t, ht⟩ := ord_next hv (l := ordK ts k) (by omega)
    rw [ordK_step ht]; simp [ih]
def OrdR (ts : List Tg) (l : List ByteArray) (err : Int) : Prop := (¬ Vld ts ∧ l = [] ∧ err = 1) ∨ (Vld ts ∧ l = ordK ts ts.length ∧ err = 0)
theorem OrdR.same {ts : List Tg} {l m : List ByteArray} {e f : Int} (h : OrdR ts l e) (g : OrdR ts m f) : l = m ∧ e = f := by
  rcases h with ⟨h1, h2, h3⟩ | ⟨h1, h2, h3⟩
  · rcases g with ⟨_, g2, g3⟩ | ⟨g1, _⟩
    · exact ⟨h2.trans g2.symm, h3.trans g3.symm⟩
    · exact absurd g1 h1
  · rcases g with ⟨g1, _⟩ | ⟨_, g2, g3⟩
    · exact absurd h1 g1
    · exact ⟨h2.trans g2.symm, h3.trans g3.symm⟩
end Go.Proofs.YtddlohbhchjjhaaGreatDoor
