/-
  Lemmas, part 5: graph.valid. action.checkOutput: why an output is not valid. strings.Builder in a block of the call's own: what its writers do at this program (copyCheck 80, WriteByte 79, WriteString 71, String 70). codec.digits, writeInt, PutInt and PutText. codec.PutInt and PutText, cordwoodref01.put, PutInt and PutText. action.number, text and EncodeOutput: the encoding of an output. GetInt and GetText, what a number or a text at the beginning of a string is.
-/
import Derived.IntWalk
import Derived.Lib.Builder
import Derived.Lib.AppendStr
import Derived.Lib.UnsafeStr
import Derived.Laws.Externs
import Derived.Deep.QuietTactic
import Derived.BigQuiet
import Derived.Test.YtiphbincnnppdaaDoorURT4

namespace Go.Proofs.YtiphbincnnppdaaDoor
open Go.RowKit Go.Maps

def kindOf (ts : List Tg) (d : ByteArray) : Int := match findT ts d with
  | none => 0
  | some t => t.kind
/-- A target that may be in a graph. -/
structure TOk (ts : List Tg) (t : Tg) : Prop where
  lab : labB t.lab = true
  kind : t.kind = 1 ∨ t.kind = 2
  few : t.deps.length ≤ 20
  dep : ∀ d ∈ t.deps, kindOf ts d = 1
  nod : t.deps.Nodup
  vis : visE t.vis = 0
/-- A valid graph. -/
structure Vld (ts : List Tg) : Prop where
  few : ts.length ≤ 100
  all : ∀ t ∈ ts, TOk ts t
  asc : Asc (ts.map Tg.lab)
  free : ∀ s, ¬ Rch (nxT ts) s s
/-- the first k targets are all right -/
def Upto (ts : List Tg) (k : Nat) : Prop := ∀ j t, j < k → ts[j]? = some t → TOk ts t ∧ ∀ p, 0 < j → ts[j - 1]? = some p → less p.lab t.lab = true
theorem Upto.start (ts : List Tg) : Upto ts 0 := fun j t h => absurd h (by omega)
theorem Upto.step {ts : List Tg} {k : Nat} {t : Tg} (h : Upto ts k) (ht : ts[k]? = some t) (h1 : TOk ts t) (h2 : ∀ p, 0 < k → ts[k - 1]? = some p → less p.lab t.lab = true) : Upto ts (k + 1) := fun j x hj hx => by
  by_cases e : j = k
  · subst e; rw [ht] at hx; cases hx; exact ⟨h1, h2⟩
  · exact h j x (by omega) hx
theorem asc_of_next : ∀ (l : List ByteArray), (∀ j a b, l[j]? = some a → l[j + 1]? = some b → less a b = true) → Asc l
  | [], _ => List.Pairwise.nil
  | [a], _ => List.pairwise_singleton _ _
  | a :: b :: l, h => by
    have ih := asc_of_next (b :: l) (fun j x y hx hy => h (j + 1) x y (by simpa using hx) (by simpa using hy))
    have hab := h 0 a b rfl rfl
    refine List.pairwise_cons.2 ⟨fun x hx => ?_, ih⟩
    rcases List.mem_cons.1 hx with rfl | hx
    · exact hab
    · exact lessB_trans hab ((List.pairwise_cons.1 ih).1 x hx)
theorem Upto.vld {ts : List Tg} (h : Upto ts ts.length) (hf : ts.length ≤ 100) (hc : ∀ s, ¬ Rch (nxT ts) s s) : Vld ts := by
  refine ⟨hf, fun t ht => ?_, asc_of_next _ (fun j a b ha hb => ?_), hc⟩
  · obtain ⟨j, hj, e⟩ := List.getElem_of_mem ht
    exact (h j t hj (by rw [← e]; exact List.getElem?_eq_getElem _)).1
  · rw [List.getElem?_map] at ha hb
    obtain ⟨p, hp, rfl⟩ := Option.map_eq_some_iff.1 ha
    obtain ⟨t, ht, rfl⟩ := Option.map_eq_some_iff.1 hb
    exact (h (j + 1) t (List.getElem?_eq_some_iff.1 ht).1 ht).2 p (by omega) (by simpa using hp)
theorem Vld.next {ts : List Tg} (h : Vld ts) {k : Nat} {p t : Tg} (hk : 0 < k) (hp : ts[k - 1]? = some p) (ht : ts[k]? = some t) : less p.lab t.lab = true := by
  have h1 := List.getElem?_eq_some_iff.1 hp
  have h2 := List.getElem?_eq_some_iff.1 ht
  have := List.pairwise_iff_getElem.1 h.asc (k - 1) k (by simpa using h1.1) (by simpa using h2.1) (by omega)
  simpa [h1.2, h2.2] using this
theorem Vld.at_ {ts : List Tg} (h : Vld ts) {k : Nat} {t : Tg} (ht : ts[k]? = some t) : TOk ts t := h.all t (List.mem_of_getElem? ht)
theorem idx_kind (ts : List Tg) (d : ByteArray) : ∃ x0 x2 x3, (idxG ts d).getD (.agg #[.string ⟨#[]⟩, .int .i64 0, .slice none 0 0, .slice none 0 0]) = .agg #[x0, .int .i64 (kindOf ts d), x2, x3] := by
  unfold idxG kindOf
  cases findT ts d with
  | none => exact ⟨_, _, _, rfl⟩
  | some t => exact ⟨_, _, _, rfl⟩
theorem field1 (x0 x2 x3 : Value) (k : Int) (w : World) : (Instr.field 35 (.agg #[x0, .int .i64 k, x2, x3]) 1).run Tryd.prog w = .ok (.int .i64 k) w := by
  simp [Instr.field, run_underlying Tryd.underlying35, go_sem, asAgg, Result.andThen]
def VldEnd (ts : List Tg) (w : World) (e : Ending) (w' : World) : Prop := ∃ r : Bool, e = .returned (.bool r) ∧ (r = true ↔ Vld ts) ∧ Below w.heap.size w w'
theorem VldEnd.no {ts : List Tg} {w w' : World} (h : ¬ Vld ts) (hb : Below w.heap.size w w') : VldEnd ts w (.returned (.bool false)) w' := ⟨false, rfl, ⟨(fun e => by cases e), fun e => absurd e h⟩, hb⟩

theorem le_not_less {a b : ByteArray} {le : Bool} (h : (Op.bytesLess a.toList b.toList || a.toList == b.toList) = le) : less b a = !le := by
  rw [less_str, str_dec] at h
  subst h
  by_cases e : a = b
  · subst e; simp [lessB_irrefl]
  · simp only [e, decide_false, Bool.or_false]
    cases h1 : less a b with
    | true => rw [lessB_asymm h1]; rfl
    | false =>
      cases h2 : less b a with
      | true => rfl
      | false => exact absurd (lessB_conn h1 h2) e

set_option maxRecDepth 100000 in
set_option maxHeartbeats 8000000 in
theorem valid_any (A : Option Addr) (n c B : Nat) (ts : List Tg) (w : World) (h0 : Sl w B 4 A n (flat tgC ts)) (hok : ∀ t ∈ ts, TgOk w B t) (hB : B ≤ w.heap.size) (hnc : n ≤ c) (hcm : c ≤ maxLen) :
    Calls Tryd.prog 54 #[.agg #[.slice A n c]] w (VldEnd ts w) := by
  have HTL := Lib.hid (h0.len tgC_len (by omega))
  have H0 := Lib.hid h0; have HOK := Lib.hid hok
  clear h0 hok
  have hnm : n ≤ 9223372036854775807 := by unfold maxLen at hcm; omega
  have HB0 : Hid (Below w.heap.size w (w.alloc (.cells #[.slice A n c] 24))) := (Below.refl _ w).alloc (Nat.le_refl _) _
  go_enter Tryd.func54, Tryd.ntmps54
  by_cases hbig : 100 < n
  · have hF : Hid (¬ Vld ts) := fun h => by have := h.few; rw [HTL.out] at this; omega
    have hlz : (100 : Int) < (n : Int) := by omega
    go_wp2
    go_ret
    exact VldEnd.no hF.out HB0.out
  · have hlz : ¬ (100 : Int) < (n : Int) := by omega
    have HI := Lib.hid (index_any A n c B ts (w.alloc (.cells #[.slice A n c] 24)) (H0.out.below HB0.out hB) (by simp; omega) (by omega) (fun t ht => (HOK.out t ht).ls))
    go_wp2_with (go_at_call 55; refine HI.out.mono ?_; rintro e w1 ⟨rfl, hM, hb1⟩; refine halt_ ?_)
    refine unhalt ?_
    simp only [World.size_alloc] at hM hb1 ⊢
    have HM := Lib.hid hM
    have HB1 : Hid (Below w.heap.size w w1) := HB0.out.trans (hb1.mono (by omega))
    have HG1 : Hid (w1.heap[w.heap.size]? = some (.cells #[.slice A n c] 24 (0, 0))) := (hb1.block _ (by omega)).trans (World.alloc_heap_new w _)
    have x0 := cell_of_one HG1.out
    have hz1 : w.heap.size + 1 < w1.heap.size := HM.out.lt
    clear hM hb1 HI
    go_wp2
    go_loopw [18] (fun i wr => ∃ k : Nat, k ≤ n ∧ i = .int .i64 k ∧ Hid (Upto ts k) ∧ Hid (Below w1.heap.size w1 wr)) (fun i _ => n - (intOf i).toNat)
    case atStart => exact ⟨0, Nat.zero_le _, rfl, Upto.start ts, Below.refl _ _⟩
    case round =>
      obtain ⟨k, hk, rfl, hU, hBel⟩ := hrel
      have HBw : Hid (Below w.heap.size w wr) := HB1.out.trans (hBel.out.mono (by omega))
      have hwz := hBel.out.size
      have HGr : Hid (wr.heap[w.heap.size]? = some (.cells #[.slice A n c] 24 (0, 0))) := (hBel.out.block _ (by omega)).trans HG1.out
      have g0 := cell_of_one HGr.out
      by_cases hlt : k < n
      · obtain ⟨b, off, t, rfl, hbB, ht, y0, y1, y2, y3⟩ := (H0.out.below HBw.out hB).tg hlt
        have HT := Lib.hid ht
        have HTO : Hid (TgOk w B t) := HOK.out t (List.mem_of_getElem? ht)
        have hlz : (k : Int) < (n : Int) := by omega
        obtain ⟨lab, kind, dA, dn, dc, deps, vA, vn, vc, vis⟩ := t
        simp only at y0 y1 y2 y3
        clear ht
        have hk0 : Bk (wr.alloc (.cells #[.string lab, .int .i64 kind, .slice dA dn dc, .slice vA vn vc] 35)) wr.heap.size 35 #[.string lab, .int .i64 kind, .slice dA dn dc, .slice vA vn vc] := Bk.new wr _ _
        have HK0 := Lib.hid hk0
        clear hk0
        have hls : lab.size ≤ maxLen := HTO.out.ls
        have HBa : Hid (Below w1.heap.size w1 (wr.alloc (.cells #[.string lab, .int .i64 kind, .slice dA dn dc, .slice vA vn vc] 35))) := hBel.out.alloc hwz _
        have g0' : (wr.alloc (.cells #[.string lab, .int .i64 kind, .slice dA dn dc, .slice vA vn vc] 35)).cell? ⟨w.heap.size, 0, none⟩ = some (.slice (some ⟨b, off, none⟩) n c) := (HBa.out.cell (p := ⟨w.heap.size, 0, none⟩) (by show w.heap.size < _; omega)).trans x0
        have l0 := HK0.out.cell 0
        simp only [List.getElem?_toArray, List.getElem?_cons_zero] at l0
        have HLF := Lib.hid l0
        have HGF := Lib.hid g0'
        clear l0 g0'
        cases hlab : labB lab with
        | false =>
          have hF : Hid (¬ Vld ts) := fun h => by have := (h.at_ HT.out).lab; rw [hlab] at this; cases this
          have HLAB := Lib.hid hlab
          clear hlab
          go_wp2_with fail
          refine wp_region_stableGD 19 [23, 24, 25, 26, 27, 28, 29, 30, 31, 32, 33, 34, 35, 36, 37, 38, 39, 40, 41] (by kernel_rfl) (by kernel_rfl) (by kernel_rfl) (fun W => Below (wr.alloc (.cells #[.string lab, .int .i64 kind, .slice dA dn dc, .slice vA vn vc] 35)).heap.size (wr.alloc (.cells #[.string lab, .int .i64 kind, .slice dA dn dc, .slice vA vn vc] 35)) W) (fun W W' => Below W.heap.size W W')
            (vPhi [.pointer (some ⟨wr.heap.size, 0, none⟩), .string lab, .bool false, .bool true, .bool true, undef, undef, undef, undef, undef, undef, undef, undef, undef, undef, undef, undef, undef, undef]) (fun W W' h1 h2 => h1.trans (h2.mono h1.size)) (fun _ _ _ _ h _ => h) (Below.refl _ _).drew ?stepfalse ?tailfalse
          case stepfalse =>
            intro i o vs W hi ho hv hR hphi
            obtain ⟨v0, v1, v2, v3, v4, v5, v6, v7, v8, v9, v10, v11, v12, v13, v14, v15, v16, v17, v18, rfl⟩ := list19 hv
            simp only [List.zip, List.zipWith, putAll, Act.put, List.setIfInBounds_toArray, List.set]
            have l0 := (hR.cell (p := ⟨wr.heap.size, 0, none⟩) (by simp)).trans HLF.out
            have l1 := (hR.cell (p := ⟨w.heap.size, 0, none⟩) (by show w.heap.size < _; simp; omega)).trans HGF.out
            match i, hi, ho with
            | 0, _, rfl =>
              exact .inl ⟨rfl, gives_value (v := .pointer (some ⟨wr.heap.size, 0, none⟩)) (w' := W) (by go_simp) ⟨Below.refl _ _, fun u hu => by cases hu; rfl⟩⟩
            | 1, _, rfl =>
              have e0 : v0 = _ := hphi ⟨0, .data⟩ (by simp) rfl v0 rfl _ rfl
              subst e0
              exact .inl ⟨rfl, gives_value (v := .string lab) (w' := W) (by go_simp) ⟨Below.refl _ _, fun u hu => by cases hu; rfl⟩⟩
            | 2, _, rfl =>
              have e1 : v1 = _ := hphi ⟨1, .data⟩ (by simp) rfl v1 rfl _ rfl
              subst e1
              refine .inl ⟨rfl, gives_call (f := 38) (args := #[.string lab]) (by go_simp) ((label_any lab W hls).mono ?_)⟩
              rintro e W' ⟨rfl, hb⟩
              exact ⟨_, rfl, hb, fun u hu => by cases hu; rw [HLAB.out]⟩
            | 3, _, rfl =>
              have e2 : v2 = _ := hphi ⟨2, .data⟩ (by simp) rfl v2 rfl _ rfl
              subst e2
              exact .inl ⟨rfl, gives_value (v := .bool true) (w' := W) (by go_simp) ⟨Below.refl _ _, fun u hu => by cases hu; rfl⟩⟩
            | 4, _, rfl =>
              have e3 : v3 = _ := hphi ⟨3, .data⟩ (by simp) rfl v3 rfl _ rfl
              subst e3
              exact .inl ⟨rfl, gives_value (v := .bool true) (w' := W) (by go_simp) ⟨Below.refl _ _, fun u hu => by cases hu; rfl⟩⟩
            | 5, _, rfl =>
              have e4 : v4 = _ := hphi ⟨4, .guard⟩ (by simp) rfl v4 rfl _ rfl
              subst e4
              exact .inr ⟨rfl, Below.refl _ _, fun u hu => by cases hu; rfl⟩
            | 6, _, rfl =>
              have e5 : v5 = _ := hphi ⟨5, .data⟩ (by simp) rfl v5 rfl _ rfl
              have e4 : v4 = _ := hphi ⟨4, .guard⟩ (by simp) rfl v4 rfl _ rfl
              subst e4 e5
              exact .inr ⟨rfl, Below.refl _ _, fun u hu => by cases hu; rfl⟩
            | 7, _, rfl =>
              have e6 : v6 = _ := hphi ⟨6, .data⟩ (by simp) rfl v6 rfl _ rfl
              have e4 : v4 = _ := hphi ⟨4, .guard⟩ (by simp) rfl v4 rfl _ rfl
              subst e4 e6
              exact .inr ⟨rfl, Below.refl _ _, fun u hu => by cases hu; rfl⟩
            | 8, _, rfl =>
              have e7 : v7 = _ := hphi ⟨7, .guard⟩ (by simp) rfl v7 rfl _ rfl
              subst e7
              exact .inr ⟨rfl, Below.refl _ _, fun u hu => by cases hu; rfl⟩
            | 9, _, rfl =>
              have e8 : v8 = _ := hphi ⟨8, .data⟩ (by simp) rfl v8 rfl _ rfl
              have e7 : v7 = _ := hphi ⟨7, .guard⟩ (by simp) rfl v7 rfl _ rfl
              subst e7 e8
              exact .inr ⟨rfl, Below.refl _ _, fun u hu => by cases hu; rfl⟩
            | 10, _, rfl =>
              have e7 : v7 = _ := hphi ⟨7, .guard⟩ (by simp) rfl v7 rfl _ rfl
              subst e7
              exact .inr ⟨rfl, Below.refl _ _, fun u hu => by cases hu; rfl⟩
            | 11, _, rfl =>
              have e10 : v10 = _ := hphi ⟨10, .data⟩ (by simp) rfl v10 rfl _ rfl
              have e7 : v7 = _ := hphi ⟨7, .guard⟩ (by simp) rfl v7 rfl _ rfl
              subst e7 e10
              exact .inr ⟨rfl, Below.refl _ _, fun u hu => by cases hu; rfl⟩
            | 12, _, rfl =>
              have e7 : v7 = _ := hphi ⟨7, .guard⟩ (by simp) rfl v7 rfl _ rfl
              subst e7
              exact .inr ⟨rfl, Below.refl _ _, fun u hu => by cases hu; rfl⟩
            | 13, _, rfl =>
              have e12 : v12 = _ := hphi ⟨12, .data⟩ (by simp) rfl v12 rfl _ rfl
              have e7 : v7 = _ := hphi ⟨7, .guard⟩ (by simp) rfl v7 rfl _ rfl
              subst e7 e12
              exact .inr ⟨rfl, Below.refl _ _, fun u hu => by cases hu; rfl⟩
            | 14, _, rfl =>
              have e11 : v11 = _ := hphi ⟨11, .data⟩ (by simp) rfl v11 rfl _ rfl
              have e13 : v13 = _ := hphi ⟨13, .data⟩ (by simp) rfl v13 rfl _ rfl
              have e7 : v7 = _ := hphi ⟨7, .guard⟩ (by simp) rfl v7 rfl _ rfl
              subst e7 e11 e13
              exact .inr ⟨rfl, Below.refl _ _, fun u hu => by cases hu; rfl⟩
            | 15, _, rfl =>
              have e14 : v14 = _ := hphi ⟨14, .data⟩ (by simp) rfl v14 rfl _ rfl
              have e7 : v7 = _ := hphi ⟨7, .guard⟩ (by simp) rfl v7 rfl _ rfl
              subst e7 e14
              exact .inr ⟨rfl, Below.refl _ _, fun u hu => by cases hu; rfl⟩
            | 16, _, rfl =>
              have e15 : v15 = _ := hphi ⟨15, .data⟩ (by simp) rfl v15 rfl _ rfl
              have e7 : v7 = _ := hphi ⟨7, .guard⟩ (by simp) rfl v7 rfl _ rfl
              subst e7 e15
              exact .inr ⟨rfl, Below.refl _ _, fun u hu => by cases hu; rfl⟩
            | 17, _, rfl =>
              have e9 : v9 = _ := hphi ⟨9, .data⟩ (by simp) rfl v9 rfl _ rfl
              have e16 : v16 = _ := hphi ⟨16, .data⟩ (by simp) rfl v16 rfl _ rfl
              have e7 : v7 = _ := hphi ⟨7, .guard⟩ (by simp) rfl v7 rfl _ rfl
              subst e7 e9 e16
              exact .inr ⟨rfl, Below.refl _ _, fun u hu => by cases hu; rfl⟩
            | 18, _, rfl =>
              have e7 : v7 = _ := hphi ⟨7, .data⟩ (by simp) rfl v7 rfl _ rfl
              have e17 : v17 = _ := hphi ⟨17, .data⟩ (by simp) rfl v17 rfl _ rfl
              have e4 : v4 = _ := hphi ⟨4, .guard⟩ (by simp) rfl v4 rfl _ rfl
              subst e4 e7 e17
              exact .inr ⟨rfl, Below.refl _ _, fun u hu => by cases hu; rfl⟩
            | i + 19, hi, _ => exact absurd hi (by omega)
          case' tailfalse =>
            intro vs W hv hR hphi
            obtain ⟨v0, v1, v2, v3, v4, v5, v6, v7, v8, v9, v10, v11, v12, v13, v14, v15, v16, v17, v18, rfl⟩ := list19 hv
            simp only [List.zip, List.zipWith, putAll, Act.put, List.setIfInBounds_toArray, List.set, List.drop]
            have e4 : v4 = _ := hphi 4 v4 rfl _ rfl
            have e18 : v18 = _ := hphi 18 v18 rfl _ rfl
            subst e4 e18
            have HBR : Hid (Below w1.heap.size w1 W) := HBa.out.trans (hR.mono HBa.out.size)
            go_wp2
            go_ret
            exact VldEnd.no hF.out (HB1.out.trans (HBR.out.mono (by omega)))
        | true =>
          have HLAB := Lib.hid hlab
          clear hlab
          have hways : (k = 0) ∨ ∃ m, k = m + 1 := by cases k with | zero => exact .inl rfl | succ m => exact .inr ⟨m, rfl⟩
          rcases hways with hk0 | ⟨m, hkm⟩
          case' inl =>
            have HNX : Hid (∀ p, 0 < k → ts[k - 1]? = some p → less p.lab lab = true) := fun p h => absurd h (by omega)
            have hgt : ¬ (0 : Int) < (k : Int) := by omega
            have HKK := Lib.hid hk0
            clear hk0
            go_wp2_with fail
            refine wp_region_stableGD 19 [23, 24, 25, 26, 27, 28, 29, 30, 31, 32, 33, 34, 35, 36, 37, 38, 39, 40, 41] (by kernel_rfl) (by kernel_rfl) (by kernel_rfl) (fun W => Below (wr.alloc (.cells #[.string lab, .int .i64 kind, .slice dA dn dc, .slice vA vn vc] 35)).heap.size (wr.alloc (.cells #[.string lab, .int .i64 kind, .slice dA dn dc, .slice vA vn vc] 35)) W) (fun W W' => Below W.heap.size W W')
              (vPhi [.pointer (some ⟨wr.heap.size, 0, none⟩), .string lab, .bool true, .bool false, .bool false, .int .i64 (k : Int), .bool false, .bool false, undef, undef, undef, undef, undef, undef, undef, undef, undef, undef, .bool false]) (fun W W' h1 h2 => h1.trans (h2.mono h1.size)) (fun _ _ _ _ h _ => h) (Below.refl _ _).drew ?steptrue0 ?tailtrue0
            case steptrue0 =>
              intro i o vs W hi ho hv hR hphi
              obtain ⟨v0, v1, v2, v3, v4, v5, v6, v7, v8, v9, v10, v11, v12, v13, v14, v15, v16, v17, v18, rfl⟩ := list19 hv
              simp only [List.zip, List.zipWith, putAll, Act.put, List.setIfInBounds_toArray, List.set]
              have l0 := (hR.cell (p := ⟨wr.heap.size, 0, none⟩) (by simp)).trans HLF.out
              have l1 := (hR.cell (p := ⟨w.heap.size, 0, none⟩) (by show w.heap.size < _; simp; omega)).trans HGF.out
              match i, hi, ho with
              | 0, _, rfl =>
                exact .inl ⟨rfl, gives_value (v := .pointer (some ⟨wr.heap.size, 0, none⟩)) (w' := W) (by go_simp) ⟨Below.refl _ _, fun u hu => by cases hu; rfl⟩⟩
              | 1, _, rfl =>
                have e0 : v0 = _ := hphi ⟨0, .data⟩ (by simp) rfl v0 rfl _ rfl
                subst e0
                exact .inl ⟨rfl, gives_value (v := .string lab) (w' := W) (by go_simp) ⟨Below.refl _ _, fun u hu => by cases hu; rfl⟩⟩
              | 2, _, rfl =>
                have e1 : v1 = _ := hphi ⟨1, .data⟩ (by simp) rfl v1 rfl _ rfl
                subst e1
                refine .inl ⟨rfl, gives_call (f := 38) (args := #[.string lab]) (by go_simp) ((label_any lab W hls).mono ?_)⟩
                rintro e W' ⟨rfl, hb⟩
                exact ⟨_, rfl, hb, fun u hu => by cases hu; rw [HLAB.out]⟩
              | 3, _, rfl =>
                have e2 : v2 = _ := hphi ⟨2, .data⟩ (by simp) rfl v2 rfl _ rfl
                subst e2
                exact .inl ⟨rfl, gives_value (v := .bool false) (w' := W) (by go_simp) ⟨Below.refl _ _, fun u hu => by cases hu; rfl⟩⟩
              | 4, _, rfl =>
                have e3 : v3 = _ := hphi ⟨3, .data⟩ (by simp) rfl v3 rfl _ rfl
                subst e3
                exact .inl ⟨rfl, gives_value (v := .bool false) (w' := W) (by go_simp) ⟨Below.refl _ _, fun u hu => by cases hu; rfl⟩⟩
              | 5, _, rfl =>
                have e4 : v4 = _ := hphi ⟨4, .guard⟩ (by simp) rfl v4 rfl _ rfl
                subst e4
                exact .inl ⟨rfl, gives_value (v := .int .i64 (k : Int)) (w' := W) (by go_simp) ⟨Below.refl _ _, fun u hu => by cases hu; rfl⟩⟩
              | 6, _, rfl =>
                have e5 : v5 = _ := hphi ⟨5, .data⟩ (by simp) rfl v5 rfl _ rfl
                have e4 : v4 = _ := hphi ⟨4, .guard⟩ (by simp) rfl v4 rfl _ rfl
                subst e4 e5
                exact .inl ⟨rfl, gives_value (v := .bool false) (w' := W) (by have h9 := HKK.out; go_simp) ⟨Below.refl _ _, fun u hu => by cases hu; rfl⟩⟩
              | 7, _, rfl =>
                have e6 : v6 = _ := hphi ⟨6, .data⟩ (by simp) rfl v6 rfl _ rfl
                have e4 : v4 = _ := hphi ⟨4, .guard⟩ (by simp) rfl v4 rfl _ rfl
                subst e4 e6
                exact .inl ⟨rfl, gives_value (v := .bool false) (w' := W) (by go_simp) ⟨Below.refl _ _, fun u hu => by cases hu; rfl⟩⟩
              | 8, _, rfl =>
                have e7 : v7 = _ := hphi ⟨7, .guard⟩ (by simp) rfl v7 rfl _ rfl
                subst e7
                exact .inr ⟨rfl, Below.refl _ _, fun u hu => by cases hu; rfl⟩
              | 9, _, rfl =>
                have e8 : v8 = _ := hphi ⟨8, .data⟩ (by simp) rfl v8 rfl _ rfl
                have e7 : v7 = _ := hphi ⟨7, .guard⟩ (by simp) rfl v7 rfl _ rfl
                subst e7 e8
                exact .inr ⟨rfl, Below.refl _ _, fun u hu => by cases hu; rfl⟩
              | 10, _, rfl =>
                have e7 : v7 = _ := hphi ⟨7, .guard⟩ (by simp) rfl v7 rfl _ rfl
                subst e7
                exact .inr ⟨rfl, Below.refl _ _, fun u hu => by cases hu; rfl⟩
              | 11, _, rfl =>
                have e10 : v10 = _ := hphi ⟨10, .data⟩ (by simp) rfl v10 rfl _ rfl
                have e7 : v7 = _ := hphi ⟨7, .guard⟩ (by simp) rfl v7 rfl _ rfl
                subst e7 e10
                exact .inr ⟨rfl, Below.refl _ _, fun u hu => by cases hu; rfl⟩
              | 12, _, rfl =>
                have e7 : v7 = _ := hphi ⟨7, .guard⟩ (by simp) rfl v7 rfl _ rfl
                subst e7
                exact .inr ⟨rfl, Below.refl _ _, fun u hu => by cases hu; rfl⟩
              | 13, _, rfl =>
                have e12 : v12 = _ := hphi ⟨12, .data⟩ (by simp) rfl v12 rfl _ rfl
                have e7 : v7 = _ := hphi ⟨7, .guard⟩ (by simp) rfl v7 rfl _ rfl
                subst e7 e12
                exact .inr ⟨rfl, Below.refl _ _, fun u hu => by cases hu; rfl⟩
              | 14, _, rfl =>
                have e11 : v11 = _ := hphi ⟨11, .data⟩ (by simp) rfl v11 rfl _ rfl
                have e13 : v13 = _ := hphi ⟨13, .data⟩ (by simp) rfl v13 rfl _ rfl
                have e7 : v7 = _ := hphi ⟨7, .guard⟩ (by simp) rfl v7 rfl _ rfl
                subst e7 e11 e13
                exact .inr ⟨rfl, Below.refl _ _, fun u hu => by cases hu; rfl⟩
              | 15, _, rfl =>
                have e14 : v14 = _ := hphi ⟨14, .data⟩ (by simp) rfl v14 rfl _ rfl
                have e7 : v7 = _ := hphi ⟨7, .guard⟩ (by simp) rfl v7 rfl _ rfl
                subst e7 e14
                exact .inr ⟨rfl, Below.refl _ _, fun u hu => by cases hu; rfl⟩
              | 16, _, rfl =>
                have e15 : v15 = _ := hphi ⟨15, .data⟩ (by simp) rfl v15 rfl _ rfl
                have e7 : v7 = _ := hphi ⟨7, .guard⟩ (by simp) rfl v7 rfl _ rfl
                subst e7 e15
                exact .inr ⟨rfl, Below.refl _ _, fun u hu => by cases hu; rfl⟩
              | 17, _, rfl =>
                have e9 : v9 = _ := hphi ⟨9, .data⟩ (by simp) rfl v9 rfl _ rfl
                have e16 : v16 = _ := hphi ⟨16, .data⟩ (by simp) rfl v16 rfl _ rfl
                have e7 : v7 = _ := hphi ⟨7, .guard⟩ (by simp) rfl v7 rfl _ rfl
                subst e7 e9 e16
                exact .inr ⟨rfl, Below.refl _ _, fun u hu => by cases hu; rfl⟩
              | 18, _, rfl =>
                have e7 : v7 = _ := hphi ⟨7, .data⟩ (by simp) rfl v7 rfl _ rfl
                have e17 : v17 = _ := hphi ⟨17, .data⟩ (by simp) rfl v17 rfl _ rfl
                have e4 : v4 = _ := hphi ⟨4, .guard⟩ (by simp) rfl v4 rfl _ rfl
                subst e4 e7 e17
                exact .inl ⟨rfl, gives_value (v := .bool false) (w' := W) (by go_simp) ⟨Below.refl _ _, fun u hu => by cases hu; rfl⟩⟩
              | i + 19, hi, _ => exact absurd hi (by omega)
            case' tailtrue0 =>
              intro vs W hv hR hphi
              obtain ⟨v0, v1, v2, v3, v4, v5, v6, v7, v8, v9, v10, v11, v12, v13, v14, v15, v16, v17, v18, rfl⟩ := list19 hv
              simp only [List.zip, List.zipWith, putAll, Act.put, List.setIfInBounds_toArray, List.set, List.drop]
              have e4 : v4 = _ := hphi 4 v4 rfl _ rfl
              have e18 : v18 = _ := hphi 18 v18 rfl _ rfl
              subst e4 e18
              have HBR : Hid (Below w1.heap.size w1 W) := HBa.out.trans (hR.mono HBa.out.size)
          case' inr =>
            obtain ⟨b', off', pt, e', _, hpt, q0, _⟩ := (H0.out.below (HB1.out.trans (HBa.out.mono (by omega))) hB).tg (show m < n by omega)
            cases e'
            have HPF := Lib.hid q0
            obtain ⟨plab, hpl⟩ : ∃ plab, pt.lab = plab := ⟨_, rfl⟩
            rw [hpl] at HPF
            obtain ⟨le, hle⟩ : ∃ le, (Op.bytesLess lab.toList plab.toList || lab.toList == plab.toList) = le := ⟨_, rfl⟩
            have hgt : (0 : Int) < (k : Int) := by omega
            have HKK : Hid (0 < k) := by show 0 < k; omega
            have hwrap : IntKind.i64.wrap ((k : Int) - 1) = (m : Int) := by rw [IntWalk.i64_in _ (by omega)]; omega
            have hmn : (m : Int) < (n : Int) := by omega
            have HLE := Lib.hid (le_not_less hle)
            have HPT : Hid (ts[k - 1]? = some pt) := by show _ = _; rw [hkm]; exact hpt
            have HPL := Lib.hid hpl
            clear hpt q0 hpl hkm
            go_wp2_with fail
            refine wp_region_stableGD 19 [23, 24, 25, 26, 27, 28, 29, 30, 31, 32, 33, 34, 35, 36, 37, 38, 39, 40, 41] (by kernel_rfl) (by kernel_rfl) (by kernel_rfl) (fun W => Below (wr.alloc (.cells #[.string lab, .int .i64 kind, .slice dA dn dc, .slice vA vn vc] 35)).heap.size (wr.alloc (.cells #[.string lab, .int .i64 kind, .slice dA dn dc, .slice vA vn vc] 35)) W) (fun W W' => Below W.heap.size W W')
              (vPhi [.pointer (some ⟨wr.heap.size, 0, none⟩), .string lab, .bool true, .bool false, .bool false, .int .i64 (k : Int), .bool true, .bool true, .pointer (some ⟨wr.heap.size, 0, none⟩), .string lab, .pointer (some ⟨w.heap.size, 0, none⟩), .slice (some ⟨b, off, none⟩) n c, .int .i64 (k : Int), .int .i64 (m : Int), .pointer (some ⟨b, off + m * 4, none⟩), .pointer (some ⟨b, off + m * 4, none⟩), .string plab, .bool le, .bool le]) (fun W W' h1 h2 => h1.trans (h2.mono h1.size)) (fun _ _ _ _ h _ => h) (Below.refl _ _).drew ?steptrue1 ?tailtrue1
            case steptrue1 =>
              intro i o vs W hi ho hv hR hphi
              obtain ⟨v0, v1, v2, v3, v4, v5, v6, v7, v8, v9, v10, v11, v12, v13, v14, v15, v16, v17, v18, rfl⟩ := list19 hv
              simp only [List.zip, List.zipWith, putAll, Act.put, List.setIfInBounds_toArray, List.set]
              have l0 := (hR.cell (p := ⟨wr.heap.size, 0, none⟩) (by simp)).trans HLF.out
              have l1 := (hR.cell (p := ⟨w.heap.size, 0, none⟩) (by show w.heap.size < _; simp; omega)).trans HGF.out
              have l2 := (hR.cell (p := ⟨b, off + m * 4, none⟩) (by show b < _; simp; omega)).trans HPF.out
              match i, hi, ho with
              | 0, _, rfl =>
                exact .inl ⟨rfl, gives_value (v := .pointer (some ⟨wr.heap.size, 0, none⟩)) (w' := W) (by go_simp) ⟨Below.refl _ _, fun u hu => by cases hu; rfl⟩⟩
              | 1, _, rfl =>
                have e0 : v0 = _ := hphi ⟨0, .data⟩ (by simp) rfl v0 rfl _ rfl
                subst e0
                exact .inl ⟨rfl, gives_value (v := .string lab) (w' := W) (by go_simp) ⟨Below.refl _ _, fun u hu => by cases hu; rfl⟩⟩
              | 2, _, rfl =>
                have e1 : v1 = _ := hphi ⟨1, .data⟩ (by simp) rfl v1 rfl _ rfl
                subst e1
                refine .inl ⟨rfl, gives_call (f := 38) (args := #[.string lab]) (by go_simp) ((label_any lab W hls).mono ?_)⟩
                rintro e W' ⟨rfl, hb⟩
                exact ⟨_, rfl, hb, fun u hu => by cases hu; rw [HLAB.out]⟩
              | 3, _, rfl =>
                have e2 : v2 = _ := hphi ⟨2, .data⟩ (by simp) rfl v2 rfl _ rfl
                subst e2
                exact .inl ⟨rfl, gives_value (v := .bool false) (w' := W) (by go_simp) ⟨Below.refl _ _, fun u hu => by cases hu; rfl⟩⟩
              | 4, _, rfl =>
                have e3 : v3 = _ := hphi ⟨3, .data⟩ (by simp) rfl v3 rfl _ rfl
                subst e3
                exact .inl ⟨rfl, gives_value (v := .bool false) (w' := W) (by go_simp) ⟨Below.refl _ _, fun u hu => by cases hu; rfl⟩⟩
              | 5, _, rfl =>
                have e4 : v4 = _ := hphi ⟨4, .guard⟩ (by simp) rfl v4 rfl _ rfl
                subst e4
                exact .inl ⟨rfl, gives_value (v := .int .i64 (k : Int)) (w' := W) (by go_simp) ⟨Below.refl _ _, fun u hu => by cases hu; rfl⟩⟩
              | 6, _, rfl =>
                have e5 : v5 = _ := hphi ⟨5, .data⟩ (by simp) rfl v5 rfl _ rfl
                have e4 : v4 = _ := hphi ⟨4, .guard⟩ (by simp) rfl v4 rfl _ rfl
                subst e4 e5
                exact .inl ⟨rfl, gives_value (v := .bool true) (w' := W) (by have h9 := HKK.out; go_simp) ⟨Below.refl _ _, fun u hu => by cases hu; rfl⟩⟩
              | 7, _, rfl =>
                have e6 : v6 = _ := hphi ⟨6, .data⟩ (by simp) rfl v6 rfl _ rfl
                have e4 : v4 = _ := hphi ⟨4, .guard⟩ (by simp) rfl v4 rfl _ rfl
                subst e4 e6
                exact .inl ⟨rfl, gives_value (v := .bool true) (w' := W) (by go_simp) ⟨Below.refl _ _, fun u hu => by cases hu; rfl⟩⟩
              | 8, _, rfl =>
                have e7 : v7 = _ := hphi ⟨7, .guard⟩ (by simp) rfl v7 rfl _ rfl
                subst e7
                exact .inl ⟨rfl, gives_value (v := .pointer (some ⟨wr.heap.size, 0, none⟩)) (w' := W) (by go_simp) ⟨Below.refl _ _, fun u hu => by cases hu; rfl⟩⟩
              | 9, _, rfl =>
                have e8 : v8 = _ := hphi ⟨8, .data⟩ (by simp) rfl v8 rfl _ rfl
                have e7 : v7 = _ := hphi ⟨7, .guard⟩ (by simp) rfl v7 rfl _ rfl
                subst e7 e8
                exact .inl ⟨rfl, gives_value (v := .string lab) (w' := W) (by go_simp) ⟨Below.refl _ _, fun u hu => by cases hu; rfl⟩⟩
              | 10, _, rfl =>
                have e7 : v7 = _ := hphi ⟨7, .guard⟩ (by simp) rfl v7 rfl _ rfl
                subst e7
                exact .inl ⟨rfl, gives_value (v := .pointer (some ⟨w.heap.size, 0, none⟩)) (w' := W) (by go_simp) ⟨Below.refl _ _, fun u hu => by cases hu; rfl⟩⟩
              | 11, _, rfl =>
                have e10 : v10 = _ := hphi ⟨10, .data⟩ (by simp) rfl v10 rfl _ rfl
                have e7 : v7 = _ := hphi ⟨7, .guard⟩ (by simp) rfl v7 rfl _ rfl
                subst e7 e10
                exact .inl ⟨rfl, gives_value (v := .slice (some ⟨b, off, none⟩) n c) (w' := W) (by go_simp) ⟨Below.refl _ _, fun u hu => by cases hu; rfl⟩⟩
              | 12, _, rfl =>
                have e7 : v7 = _ := hphi ⟨7, .guard⟩ (by simp) rfl v7 rfl _ rfl
                subst e7
                exact .inl ⟨rfl, gives_value (v := .int .i64 (k : Int)) (w' := W) (by go_simp) ⟨Below.refl _ _, fun u hu => by cases hu; rfl⟩⟩
              | 13, _, rfl =>
                have e12 : v12 = _ := hphi ⟨12, .data⟩ (by simp) rfl v12 rfl _ rfl
                have e7 : v7 = _ := hphi ⟨7, .guard⟩ (by simp) rfl v7 rfl _ rfl
                subst e7 e12
                exact .inl ⟨rfl, gives_value (v := .int .i64 (m : Int)) (w' := W) (by go_simp) ⟨Below.refl _ _, fun u hu => by cases hu; rfl⟩⟩
              | 14, _, rfl =>
                have e11 : v11 = _ := hphi ⟨11, .data⟩ (by simp) rfl v11 rfl _ rfl
                have e13 : v13 = _ := hphi ⟨13, .data⟩ (by simp) rfl v13 rfl _ rfl
                have e7 : v7 = _ := hphi ⟨7, .guard⟩ (by simp) rfl v7 rfl _ rfl
                subst e7 e11 e13
                exact .inl ⟨rfl, gives_value (v := .pointer (some ⟨b, off + m * 4, none⟩)) (w' := W) (by go_simp) ⟨Below.refl _ _, fun u hu => by cases hu; rfl⟩⟩
              | 15, _, rfl =>
                have e14 : v14 = _ := hphi ⟨14, .data⟩ (by simp) rfl v14 rfl _ rfl
                have e7 : v7 = _ := hphi ⟨7, .guard⟩ (by simp) rfl v7 rfl _ rfl
                subst e7 e14
                exact .inl ⟨rfl, gives_value (v := .pointer (some ⟨b, off + m * 4, none⟩)) (w' := W) (by go_simp) ⟨Below.refl _ _, fun u hu => by cases hu; rfl⟩⟩
              | 16, _, rfl =>
                have e15 : v15 = _ := hphi ⟨15, .data⟩ (by simp) rfl v15 rfl _ rfl
                have e7 : v7 = _ := hphi ⟨7, .guard⟩ (by simp) rfl v7 rfl _ rfl
                subst e7 e15
                exact .inl ⟨rfl, gives_value (v := .string plab) (w' := W) (by go_simp) ⟨Below.refl _ _, fun u hu => by cases hu; rfl⟩⟩
              | 17, _, rfl =>
                have e9 : v9 = _ := hphi ⟨9, .data⟩ (by simp) rfl v9 rfl _ rfl
                have e16 : v16 = _ := hphi ⟨16, .data⟩ (by simp) rfl v16 rfl _ rfl
                have e7 : v7 = _ := hphi ⟨7, .guard⟩ (by simp) rfl v7 rfl _ rfl
                subst e7 e9 e16
                exact .inl ⟨rfl, gives_value (v := .bool le) (w' := W) (by go_simp) ⟨Below.refl _ _, fun u hu => by cases hu; rfl⟩⟩
              | 18, _, rfl =>
                have e7 : v7 = _ := hphi ⟨7, .data⟩ (by simp) rfl v7 rfl _ rfl
                have e17 : v17 = _ := hphi ⟨17, .data⟩ (by simp) rfl v17 rfl _ rfl
                have e4 : v4 = _ := hphi ⟨4, .guard⟩ (by simp) rfl v4 rfl _ rfl
                subst e4 e7 e17
                exact .inl ⟨rfl, gives_value (v := .bool le) (w' := W) (by go_simp) ⟨Below.refl _ _, fun u hu => by cases hu; rfl⟩⟩
              | i + 19, hi, _ => exact absurd hi (by omega)
            case' tailtrue1 =>
              intro vs W hv hR hphi
              obtain ⟨v0, v1, v2, v3, v4, v5, v6, v7, v8, v9, v10, v11, v12, v13, v14, v15, v16, v17, v18, rfl⟩ := list19 hv
              simp only [List.zip, List.zipWith, putAll, Act.put, List.setIfInBounds_toArray, List.set, List.drop]
              have e4 : v4 = _ := hphi 4 v4 rfl _ rfl
              have e18 : v18 = _ := hphi 18 v18 rfl _ rfl
              subst e4 e18
              have HBR : Hid (Below w1.heap.size w1 W) := HBa.out.trans (hR.mono HBa.out.size)
              have hlec : le = true ∨ le = false := by cases le <;> simp
              rcases hlec with rfl | rfl
              case inl =>
                have hF : Hid (¬ Vld ts) := fun h => by
                  have h1 := h.next (by omega) HPT.out HT.out
                  rw [HPL.out] at h1
                  have h2 : less plab lab = false := HLE.out
                  rw [h2] at h1; cases h1
                clear hle hwrap
                go_wp2
                go_ret
                exact VldEnd.no hF.out (HB1.out.trans (HBR.out.mono (by omega)))
              have HNX : Hid (∀ p, 0 < k → ts[k - 1]? = some p → less p.lab lab = true) := fun p _ h => by
                rw [HPT.out] at h; cases h
                rw [HPL.out]; exact HLE.out
              clear hle hwrap hmn HPT HLE HPL HPF
          all_goals
            have HKW := Lib.hid (HK0.out.below hR (by simp))
            have hWz := HBR.out.size
            have hrz : wr.heap.size < W.heap.size := HKW.out.lt
            have HBW : Hid (Below w.heap.size w W) := HB1.out.trans (HBR.out.mono (by omega))
            have t1 := HKW.out.cell 1; have t2 := HKW.out.cell 2; have t3 := HKW.out.cell 3
            simp only [List.getElem?_toArray, List.getElem?_cons_succ, List.getElem?_cons_zero] at t1 t2 t3
            have hdn : dn ≤ 9223372036854775807 := by have h1 := HTO.out.dle; have h2 := HTO.out.dmax; unfold maxLen at h2; simp only at h1 h2; omega
            have HDL : Hid (deps.length = dn) := HTO.out.dlen
            have HMW : Hid (Rm W Tryd.prog 9 (w.heap.size + 1) n (idxG ts)) := HM.out.below HBR.out hz1
            clear hR hphi hv y0 y1 y2 y3 g0 HBa HLF HGF HK0 hgt
            by_cases hkind : kind = 1 ∨ kind = 2
            case neg =>
              have hF : Hid (¬ Vld ts) := fun h => hkind (h.at_ HT.out).kind
              have q1 : (kind != 1) = true := by rw [bne_iff_ne]; exact fun e => hkind (.inl e)
              have q2 : (kind != 2) = true := by rw [bne_iff_ne]; exact fun e => hkind (.inr e)
              clear hkind
              go_wp2
              go_ret
              exact VldEnd.no hF.out HBW.out
            by_cases hfew : dn ≤ 20
            case neg =>
              have hF : Hid (¬ Vld ts) := fun h => by have := (h.at_ HT.out).few; simp only at this; rw [HDL.out] at this; exact hfew this
              have q3 : (20 : Int) < (dn : Int) := by omega
              clear hfew
              rcases hkind with rfl | rfl
              · go_wp2
                go_ret
                exact VldEnd.no hF.out HBW.out
              · go_wp2
                go_ret
                exact VldEnd.no hF.out HBW.out
            have q3 : ¬ (20 : Int) < (dn : Int) := by omega
            have HKI := Lib.hid hkind
            rcases hkind with rfl | rfl
            all_goals
              go_wp2
              go_loopw [60] (fun i wi => ∃ j : Nat, j ≤ dn ∧ i = .int .i64 j ∧ wi = W ∧ Hid (∀ d ∈ deps.take j, kindOf ts d = 1) ∧ Hid ((deps.take j).Nodup)) (fun i _ => dn - (intOf i).toNat)
              case atStart => exact ⟨0, Nat.zero_le _, rfl, rfl, (fun d h => by simp at h), by simp [Hid]⟩
              case round =>
                obtain ⟨j, hj, rfl, rfl, hD1, hD2⟩ := hrel
                by_cases hjn : j < dn
                · obtain ⟨db, doff, d, rfl, hdb, hd, y4⟩ := (HTO.out.below HBW.out hB).d.str_at hjn
                  have hds := HTO.out.ds d (List.mem_of_getElem? hd)
                  have HTK := Lib.hid (take_snoc hd)
                  have HDD := Lib.hid hd
                  have hlz2 : (j : Int) < (dn : Int) := by omega
                  have hlk := HMW.out.look Tryd.underlying9 Tryd.underlying105 (Tryd.zeroValue35 _) hds
                  obtain ⟨x0', x2', x3', hgx⟩ := idx_kind ts d
                  have hlk2 : (Instr.lookup 105 (.map (some (w.heap.size + 1))) (.string d) false).run Tryd.prog wr = .ok (.agg #[x0', .int .i64 (kindOf ts d), x2', x3']) wr := by rw [← hgx]; exact hlk
                  obtain ⟨kq, hkq⟩ : ∃ kq, kindOf ts d = kq := ⟨_, rfl⟩
                  rw [hkq] at hlk2
                  have HKQ := Lib.hid hkq
                  have hfd : ∀ w' : World, (Instr.field 35 (.agg #[x0', .int .i64 kq, x2', x3']) 1).run Tryd.prog w' = .ok (.int .i64 kq) w' := field1 x0' x2' x3' kq
                  clear hd hlk hgx hkq
                  by_cases hk1 : kq = 1
                  case neg =>
                    have hF : Hid (¬ Vld ts) := fun h => hk1 (by have := (h.at_ HT.out).dep d (List.mem_of_getElem? HDD.out); rw [HKQ.out] at this; exact this)
                    have q5 : (kq != 1) = true := by rw [bne_iff_ne]; exact hk1
                    clear hk1
                    go_wp2_with fail
                    go_ret
                    exact VldEnd.no hF.out HBW.out
                  subst hk1
                  have hsl : ∀ w' : World, (Instr.sliceAt 27 (.slice (some ⟨db, doff, none⟩) dn dc) none (some (.int .i64 j)) none).run Tryd.prog w' = .ok (.slice (some ⟨db, doff, none⟩) j dc) w' := fun w' => by
                    obtain ⟨i0, hi0, _⟩ := info_parts infoStr'
                    exact run_slice_to 27 i0 Tryd.underlying27 hi0 _ dn dc j (by have := HTO.out.dle; simp only at this; omega) w'
                  have HSL := Lib.hid (contains_any (some ⟨db, doff, none⟩) dn j dc B deps d wr (HTO.out.below HBW.out hB).d hj hdn)
                  cases hm : memB (deps.take j) d with
                  | true =>
                    have hF : Hid (¬ Vld ts) := fun h => by
                      have h1 := (h.at_ HT.out).nod
                      have h2 := (memB_iff _ _).1 hm
                      have h3 : (deps.take (j + 1)).Nodup := h1.sublist (List.take_sublist _ _)
                      rw [HTK.out, List.nodup_append] at h3
                      exact h3.2.2 d h2 d (by simp) rfl
                    rw [hm] at HSL
                    clear hm
                    go_wp2_with (go_at_call 85; refine HSL.out.mono ?_; rintro e w2 ⟨rfl, rfl⟩)
                    go_ret
                    exact VldEnd.no hF.out HBW.out
                  | false =>
                    have HD3 : Hid (∀ x ∈ deps.take (j + 1), kindOf ts x = 1) := fun x hx => by
                      rw [HTK.out] at hx
                      rcases List.mem_append.1 hx with hx | hx
                      · exact hD1.out x hx
                      · rw [List.mem_singleton.1 hx]; exact HKQ.out
                    have HD4 : Hid ((deps.take (j + 1)).Nodup) := by
                      show List.Nodup _
                      rw [HTK.out, List.nodup_append]
                      refine ⟨hD2.out, by simp, fun a ha b' hb' => ?_⟩
                      rintro rfl
                      rw [List.mem_singleton.1 hb'] at ha
                      rw [(memB_iff _ _).2 ha] at hm; cases hm
                    rw [hm] at HSL
                    clear hm
                    go_wp2_with (go_at_call 85; refine HSL.out.mono ?_; rintro e w2 ⟨rfl, rfl⟩)
                    go_roundw
                    case rel => exact ⟨j + 1, hjn, by go_num, trivial, HD3.out, HD4.out⟩
                    case measure => simp [intOf]; omega
                · have hlz2 : ¬ (j : Int) < (dn : Int) := by omega
                  have HD3 : Hid (∀ x ∈ deps, kindOf ts x = 1) := by
                    have h1 := hD1.out; rwa [List.take_of_length_le (by rw [HDL.out]; omega)] at h1
                  have HD4 : Hid (deps.Nodup) := by
                    have h1 := hD2.out; rwa [List.take_of_length_le (by rw [HDL.out]; omega)] at h1
                  clear hD1 hD2
                  have HBq : Hid (Below wr.heap.size wr (wr.alloc (.cells #[.int .i64 1, .string nameA, .slice none 0 0, .slice vA vn vc] 101))) := (Below.refl _ wr).alloc (Nat.le_refl _) _
                  have HCK := Lib.hid (checkOne_any vA vn vc B wr.heap.size vis (wr.alloc (.cells #[.int .i64 1, .string nameA, .slice none 0 0, .slice vA vn vc] 101)) ((HTO.out.below HBW.out hB).v.below HBq.out (by omega)) (by simp; omega) HTO.out.vle HTO.out.vmax HTO.out.vs (Bk.new wr _ _))
                  by_cases hv0 : visE vis = 0
                  case neg =>
                    have hF : Hid (¬ Vld ts) := fun h => hv0 (h.at_ HT.out).vis
                    obtain ⟨ve, hve⟩ : ∃ ve, visE vis = ve := ⟨_, rfl⟩
                    rw [hve] at HCK hv0
                    have q6 : (ve != 0) = true := by rw [bne_iff_ne]; exact hv0
                    clear hv0 hve
                    go_wp2_with (go_at_call 86; refine HCK.out.mono ?_; rintro e w2 ⟨rfl, hb2⟩)
                    go_ret
                    exact VldEnd.no hF.out (HBW.out.trans ((HBq.out.trans (hb2.mono (by simp))).mono HBW.out.size))
                  have HU2 : Hid (Upto ts (k + 1)) := hU.out.step HT.out ⟨HLAB.out, by first | exact .inl rfl | exact .inr rfl, by simp only; rw [HDL.out]; exact hfew, HD3.out, HD4.out, hv0⟩ HNX.out
                  rw [hv0] at HCK
                  clear hv0
                  go_wp2_with (go_at_call 86; refine HCK.out.mono ?_; rintro e w2 ⟨rfl, hb2⟩; refine halt_ ?_)
                  refine unhalt ?_
                  have HB2 : Hid (Below w1.heap.size w1 w2) := HBR.out.trans ((HBq.out.trans (hb2.mono (by simp))).mono HBR.out.size)
                  clear hb2
                  go_wp2
                  go_roundw
                  case rel => exact ⟨k + 1, hlt, by go_num, HU2.out, HB2.out⟩
                  case measure => simp [intOf]; omega
      · have hlz : ¬ (k : Int) < (n : Int) := by omega
        have HU2 : Hid (Upto ts ts.length) := by
          have h1 := hU.out
          have h2 : k = ts.length := by have := HTL.out; omega
          rwa [h2] at h1
        have HDM : Hid (∀ t ∈ ts, t.deps.length ≤ 1000) := fun t ht => by
          obtain ⟨j, hj, e⟩ := List.getElem_of_mem ht
          have := (HU2.out j t hj (by rw [← e]; exact List.getElem?_eq_getElem _)).1.few
          omega
        have HCY := Lib.hid (cycle_any A n c B 1000 ts wr (H0.out.below HBw.out hB) (fun t ht => (HOK.out t ht).below HBw.out hB) (Nat.le_trans hB HBw.out.size) (by omega) HDM.out (by omega))
        go_wp2_with (go_at_call 87; refine HCY.out.mono ?_; rintro e w2 ⟨A', m, c', l, rfl, hS, hC, hb2⟩; refine halt_ ?_)
        refine unhalt ?_
        have HLm : Hid (l.length = m) := by have := hS.1; rw [strs_len] at this; show _ = _; omega
        have HC := Lib.hid hC
        have HB2 : Hid (Below w.heap.size w w2) := HBw.out.trans (hb2.mono HBw.out.size)
        clear hS hC hb2 HCY
        by_cases hm0 : m = 0
        · have q7 : ((m : Int) == 0) = true := by rw [beq_iff_eq]; omega
          have hF : Hid (Vld ts) := by
            refine HU2.out.vld (by rw [HTL.out]; omega) ?_
            rcases HC.out with ⟨_, h⟩ | ⟨_, _, _, _, h, _⟩
            · exact h
            · exact absurd (List.eq_nil_of_length_eq_zero (by rw [HLm.out]; exact hm0)) h
          clear hm0
          go_wp2
          go_ret
          exact ⟨true, rfl, ⟨fun _ => hF.out, fun _ => rfl⟩, HB2.out⟩
        · have q7 : ((m : Int) == 0) = false := by rw [beq_eq_false_iff_ne]; omega
          have hF : Hid (¬ Vld ts) := fun h => by
            rcases HC.out with ⟨h1, _⟩ | ⟨s, _, _, _, _, _, h1, _⟩
            · exact hm0 (by rw [← HLm.out, h1]; rfl)
            · exact h.free s h1
          clear hm0
          go_wp2
          go_ret
          exact VldEnd.no hF.out HB2.out
end Go.Proofs.YtiphbincnnppdaaDoor

namespace Go.Proofs.YtiphbincnnppdaaDoor
open Go.RowKit Go.Shelf

def okP : Option ByteArray → ByteArray → Bool
  | none, _ => true
  | some q, s => less q s
/-- why files are not those of an output; the path ahead of them -/
noncomputable def chkF : Option ByteArray → List Fl → Int
  | _, [] => 0
  | p, f :: r => if fnB f.1 = false then 6 else if 65536 < f.2.size then 4 else if okP p f.1 = false then 10 else chkF (some f.1) r
noncomputable def chkO (fd : Bool) (msg : ByteArray) (fs : List Fl) : Int :=
  if fd = true then (if msg.size = 0 ∨ 0 < fs.length then 1 else if 300 < msg.size then 4 else 0) else if msg.size ≠ 0 then 1 else if 10 < fs.length then 4 else chkF none fs
def prevF (fs : List Fl) (k : Nat) : Option ByteArray := if k = 0 then none else (fs[k - 1]?).map Prod.fst
theorem chkF_at {fs : List Fl} {k : Nat} {f : Fl} (h : fs[k]? = some f) :
    chkF (prevF fs k) (fs.drop k) = if fnB f.1 = false then 6 else if 65536 < f.2.size then 4 else if okP (prevF fs k) f.1 = false then 10 else chkF (prevF fs (k + 1)) (fs.drop (k + 1)) := by
  have hk := (List.getElem?_eq_some_iff.1 h).1
  have e : fs.drop k = f :: fs.drop (k + 1) := by
    rw [List.drop_eq_getElem_cons hk]; congr 1; exact (List.getElem?_eq_some_iff.1 h).2
  rw [e, chkF]
  have : prevF fs (k + 1) = some f.1 := by unfold prevF; rw [if_neg (by omega), Nat.add_sub_cancel, h]; rfl
  rw [this]
theorem str_empty (s : ByteArray) : (s.toList == []) = decide (s.size = 0) := by
  rw [ByteArray.toList_eq, size_len]
  cases s.data.toList <;> simp

set_option maxRecDepth 100000 in
set_option maxHeartbeats 4000000 in
theorem checkOutput_any (fd : Bool) (msg : ByteArray) (A : Option Addr) (n c B : Nat) (fs : List Fl) (w : World) (h0 : Sl w B 2 A n (flat flC fs)) (hB : B ≤ w.heap.size) (hn : n ≤ maxLen) (hfs : ∀ f ∈ fs, f.1.size ≤ maxLen) :
    Calls Tryd.prog 41 #[.agg #[.bool fd, .string msg, .slice A n c]] w fun e w' => e = .returned (.int .i64 (chkO fd msg fs)) ∧ Below w.heap.size w w' := by
  have HL := Lib.hid (h0.len flC_len (by omega))
  have hn' : n ≤ 9223372036854775807 := by unfold maxLen at hn; exact hn
  have H0 := Lib.hid h0; have HFS := Lib.hid hfs
  clear h0 hfs
  have HM : Hid (chkO fd msg fs = if fd = true then (if msg.size = 0 ∨ 0 < fs.length then 1 else if 300 < msg.size then 4 else 0) else if msg.size ≠ 0 then 1 else if 10 < fs.length then 4 else chkF none fs) := rfl
  rw [HL.out] at HM
  have hem := str_empty msg
  obtain ⟨W, hW⟩ : ∃ W, w.alloc (.cells #[.bool fd, .string msg, .slice A n c] 62) = W := ⟨_, rfl⟩
  have HB : Hid (Below w.heap.size w W) := by rw [← hW]; exact (Below.refl w.heap.size w).alloc (Nat.le_refl _) _
  have K0 : Hid (Bk W w.heap.size 62 #[.bool fd, .string msg, .slice A n c]) := by rw [← hW]; exact Bk.new w _ _
  have u0 := K0.out.cell 0; have u1 := K0.out.cell 1; have u2 := K0.out.cell 2
  simp at u0 u1 u2
  have zW : W.heap.size = w.heap.size + 1 := by rw [← hW]; simp
  generalize chkO fd msg fs = r at *
  cases fd with
  | true =>
    rw [if_pos rfl] at HM
    by_cases e1 : msg.size = 0
    · rw [decide_eq_true e1] at hem
      rw [if_pos (.inl e1)] at HM
      clear e1
      go_enter Tryd.func41, Tryd.ntmps41
      go_wp2_with fail
      go_ret
      exact ⟨ret_int HM.out.symm, HB.out⟩
    · rw [decide_eq_false e1] at hem
      by_cases e2 : 0 < n
      · rw [if_pos (.inr e2)] at HM
        have e2z : (0 : Int) < (n : Int) := by omega
        clear e1 e2
        go_enter Tryd.func41, Tryd.ntmps41
        go_wp2_with fail
        go_ret
        exact ⟨ret_int HM.out.symm, HB.out⟩
      · rw [if_neg (by omega)] at HM
        have e2z : ¬ (0 : Int) < (n : Int) := by omega
        by_cases e3 : 300 < msg.size
        · rw [if_pos e3] at HM
          have e3z : (300 : Int) < (msg.size : Int) := by omega
          clear e1 e2 e3
          go_enter Tryd.func41, Tryd.ntmps41
          go_wp2_with fail
          go_ret
          exact ⟨ret_int HM.out.symm, HB.out⟩
        · rw [if_neg e3] at HM
          have e3z : ¬ (300 : Int) < (msg.size : Int) := by omega
          clear e1 e2 e3
          go_enter Tryd.func41, Tryd.ntmps41
          go_wp2_with fail
          go_ret
          exact ⟨ret_int HM.out.symm, HB.out⟩
  | false =>
    rw [if_neg (by decide)] at HM
    by_cases e1 : msg.size = 0
    · rw [decide_eq_true e1] at hem
      rw [if_neg (by omega)] at HM
      clear e1
      by_cases e2 : 10 < n
      · rw [if_pos e2] at HM
        have e2z : (10 : Int) < (n : Int) := by omega
        clear e2
        go_enter Tryd.func41, Tryd.ntmps41
        go_wp2_with fail
        go_ret
        exact ⟨ret_int HM.out.symm, HB.out⟩
      · rw [if_neg e2] at HM
        have e2z : ¬ (10 : Int) < (n : Int) := by omega
        clear e2
        go_enter Tryd.func41, Tryd.ntmps41
        go_wp2_with fail
        go_loopw [30] (fun q wr => ∃ k : Nat, k ≤ n ∧ q = .int .i64 k ∧ Hid (r = chkF (prevF fs k) (fs.drop k)) ∧ Hid (Bk wr w.heap.size 62 #[.bool false, .string msg, .slice A n c]) ∧ Hid (Below w.heap.size w wr)) (fun q _ => n - (intOf q).toNat)
        case atStart => exact ⟨0, Nat.zero_le _, rfl, HM.out, K0.out, HB.out⟩
        case round =>
          obtain ⟨k, hk, rfl, hK, hBk, hBel⟩ := hrel
          by_cases hlt : k < n
          · obtain ⟨b, off, f, rfl, hb, hf, y0, y1⟩ := (H0.out.below hBel.out hB).fl hlt
            have hlz : (k : Int) < (n : Int) := by omega
            have hC := hK.out
            rw [chkF_at hf] at hC
            have HC := Lib.hid hC
            have HF := Lib.hid hf
            clear hC hf
            obtain ⟨W1, hW1⟩ : ∃ W1, wr.alloc (.cells #[.string f.1, .string f.2] 51) = W1 := ⟨_, rfl⟩
            have hwr := hBel.out.size
            have HB1 : Hid (Below w.heap.size w W1) := by rw [← hW1]; exact hBel.out.alloc hwr _
            have kf : Bk W1 wr.heap.size 51 #[.string f.1, .string f.2] := by rw [← hW1]; exact Bk.new wr _ _
            have ko : Bk W1 w.heap.size 62 #[.bool false, .string msg, .slice (some ⟨b, off, none⟩) n c] := by rw [← hW1]; exact hBk.out.alloc _
            have hz1 : W1.heap.size = wr.heap.size + 1 := by rw [← hW1]; simp
            have hoz := hBk.out.lt
            have x0 := kf.cell 0; simp at x0
            have KF := Lib.hid kf; have KO := Lib.hid ko
            have HFN := Lib.hid (fileName_any f.1 W1 (HFS.out f (List.mem_of_getElem? HF.out)))
            clear kf ko
            go_wp2_with fail
            refine HFN.out.mono ?_
            rintro e w2 ⟨rfl, hb2⟩
            have hz2 := hb2.size
            have KF2 := Lib.hid (KF.out.below hb2 (by omega)); have KO2 := Lib.hid (KO.out.below hb2 (by omega))
            have HB2 : Hid (Below w.heap.size w w2) := HB1.out.trans (hb2.mono (by omega))
            have x0 := KF2.out.cell 0; have x1 := KF2.out.cell 1; have x2 := KO2.out.cell 2
            simp at x0 x1 x2
            clear hb2 HFN KF KO
            cases hfn : fnB f.1 with
            | false =>
              have HE : Hid (r = 6) := by show _ = _; rw [HC.out, if_pos hfn]
              clear hfn
              go_wp2_with fail
              go_ret
              exact ⟨ret_int HE.out.symm, HB2.out⟩
            | true =>
              rw [hfn, if_neg (by decide)] at HC
              clear hfn
              by_cases hsz : 65536 < f.2.size
              · have hszz : (65536 : Int) < (f.2.size : Int) := by omega
                have HE : Hid (r = 4) := by show _ = _; rw [HC.out, if_pos hsz]
                clear hsz
                go_wp2_with fail
                go_ret
                exact ⟨ret_int HE.out.symm, HB2.out⟩
              · have hszz : ¬ (65536 : Int) < (f.2.size : Int) := by omega
                rw [if_neg hsz] at HC
                clear hsz
                cases k with
                | zero =>
                  have HN : Hid (r = chkF (prevF fs 1) (fs.drop 1)) := by
                    show _ = _
                    rw [HC.out, if_neg]
                    simp [prevF, okP]
                  go_wp2_with fail
                  go_quiet (fail)
                  go_wp2_with fail
                  go_roundw
                  case rel => exact ⟨1, by omega, by go_num, HN.out, KO2.out, below_drewN HB2.out _⟩
                  case measure => simp [intOf]; omega
                | succ k =>
                  obtain ⟨b', off', p, hbe, _, hp, p0, _⟩ := (H0.out.below HB2.out hB).fl (show k < n by omega)
                  cases hbe
                  obtain ⟨le, hle⟩ : ∃ le, (Op.bytesLess f.1.toList p.1.toList || f.1.toList == p.1.toList) = le := ⟨_, rfl⟩
                  have hls := le_not_less hle
                  have hpv : prevF fs (k + 1) = some p.1 := by unfold prevF; rw [if_neg (by omega), Nat.add_sub_cancel, hp]; rfl
                  rw [hpv, okP] at HC
                  have hg0 : decide ((0 : Int) < ((k + 1 : Nat) : Int)) = true := by rw [decide_eq_true_iff]; omega
                  clear hp hpv
                  rw [hls] at HC
                  clear hls
                  cases le with
                  | false =>
                    have HN : Hid (r = chkF (prevF fs (k + 1 + 1)) (fs.drop (k + 1 + 1))) := by show _ = _; rw [HC.out, if_neg (by decide)]
                    clear HC
                    go_wp2_with fail
                    go_quiet (fail)
                    go_wp2_with fail
                    go_roundw
                    case rel => exact ⟨k + 1 + 1, by omega, by go_num, HN.out, KO2.out, below_drewN HB2.out _⟩
                    case measure => simp [intOf]; omega
                  | true =>
                    have HE : Hid (r = 10) := by show _ = _; rw [HC.out, if_pos (by decide)]
                    clear HC
                    go_wp2_with fail
                    go_quiet (fail)
                    go_wp2_with fail
                    go_ret
                    exact ⟨ret_int HE.out.symm, below_drewN HB2.out _⟩
          · have hlz : ¬ (k : Int) < (n : Int) := by omega
            have HE : Hid (r = 0) := by
              show _ = _
              rw [hK.out, List.drop_of_length_le (by rw [HL.out]; omega), chkF]
            go_wp2_with fail
            go_ret
            exact ⟨ret_int HE.out.symm, hBel.out⟩
    · rw [decide_eq_false e1] at hem
      rw [if_pos e1] at HM
      clear e1
      go_enter Tryd.func41, Tryd.ntmps41
      go_wp2_with fail
      go_ret
      exact ⟨ret_int HM.out.symm, HB.out⟩
end Go.Proofs.YtiphbincnnppdaaDoor

namespace Go.Proofs.YtiphbincnnppdaaDoor
open Go.RowKit

/-- Of all that is no builder and no row of bytes, nothing turns. -/
structure Kt (w w' : World) : Prop where
  others : KeepsOthers w w'
  same : ∀ (k : Nat) (cs : Array Value) (t : TypeId) (fr : Nat × Nat), t ≠ 5 → t ≠ 86 → w.heap[k]? = some (.cells cs t fr) → w'.heap[k]? = some (.cells cs t fr)
theorem Kt.refl (w : World) : Kt w w := ⟨KeepsOthers.refl w, fun _ _ _ _ _ _ h => h⟩
theorem Kt.trans {a b c : World} (h : Kt a b) (k : Kt b c) : Kt a c := ⟨h.others.trans k.others, fun i cs t fr h5 h9 hi => k.same i cs t fr h5 h9 (h.same i cs t fr h5 h9 hi)⟩
theorem Kt.alloc (w : World) (o : Obj) : Kt w (w.alloc o) := ⟨KeepsOthers.alloc w o, fun k _ _ _ _ _ h => (Below.heap_alloc w o k (Array.getElem?_eq_some_iff.1 h).1).trans h⟩
theorem Kt.setCell {w : World} {b i : Nat} {cs : Array Value} {fr : Nat × Nat} (hb : w.heap[b]? = some (.cells cs 86 fr)) (v : Value) : Kt w (w.setCell ⟨b, i, none⟩ v) :=
  ⟨KeepsOthers.setCell _ _ _, fun k cs' t fr' _ h9 h => (Below.heap_setCell w ⟨b, i, none⟩ v k (fun e => by
    have e' : k = b := e
    rw [e', hb] at h
    simp only [Option.some.injEq, Obj.cells.injEq] at h
    exact h9 h.2.1.symm)).trans h⟩
theorem Kt.grown {w w' : World} {base size n : Nat} {v : Value} {xs : List Value} (hown : w.ownsRow base 5 size v n xs) (hg : w.grownBy w' v.ownBlock) : Kt w w' := by
  have key : ∀ j, v.ownBlock = some j → ∃ cur, w.heap[j]? = some (.cells cur 5 (0, 0)) := by
    intro j hj
    rcases hown.2 with ⟨hv, _⟩ | ⟨g, cap, cur, hv, _, hh, _⟩
    · rw [hv] at hj; cases hj
    · rw [hv] at hj; cases hj; exact ⟨cur, hh⟩
  refine ⟨KeepsOthers.of_grownBy hg fun j o hj ho => ?_, fun k cs t fr h5 _ h => ?_⟩
  · obtain ⟨cur, hc⟩ := key j hj
    rw [hc] at ho; cases ho; rfl
  · refine (hg.block k (Array.getElem?_eq_some_iff.1 h).1 (fun e => ?_)).trans h
    obtain ⟨cur, hc⟩ := key k e.symm
    rw [hc] at h
    simp only [Option.some.injEq, Obj.cells.injEq] at h
    exact h5 h.2.1.symm
theorem infoByte : (Tryd.prog.info? 5).map (fun i => (i.zero, i.size, i.bytes)) = some (some (.int .u8 0), 1, 1) := by kernel_rfl

set_option maxHeartbeats 1000000 in
set_option maxRecDepth 100000 in
theorem copy_used (b : Nat) (w : World) (h0 : w.cell? ⟨b, 0, none⟩ = some (.pointer (some ⟨b, 0, none⟩))) :
    Calls Tryd.prog 97 #[.pointer (some ⟨b, 0, none⟩)] w fun e w' => e = .returned (.tuple #[]) ∧ w' = w := by
  obtain ⟨j, hj, _⟩ := Option.map_eq_some_iff.1 Tryd.Builder_Extra_169.sizeBuilder
  go_enter Tryd.func97, Tryd.ntmps97
  go_wp2
  rw [Lib.run_neq_ptr_same w _ Tryd.underlying83 hj]
  go_wp2
  go_end0
  exact ⟨rfl, rfl⟩

set_option maxHeartbeats 1000000 in
set_option maxRecDepth 100000 in
theorem copy_fresh (b : Nat) (w : World) (h0 : w.cell? ⟨b, 0, none⟩ = some (.pointer none)) (hsh : w.shape? b = some (86, 2)) (hfz : w.frozen? ⟨b, 0, none⟩ = false) :
    Calls Tryd.prog 97 #[.pointer (some ⟨b, 0, none⟩)] w fun e w' => e = .returned (.tuple #[]) ∧ w' = w.setCell ⟨b, 0, none⟩ (.pointer (some ⟨b, 0, none⟩)) := by
  obtain ⟨j, hj, hjs⟩ := Option.map_eq_some_iff.1 Tryd.Builder_Extra_169.sizeBuilder
  go_enter Tryd.func97, Tryd.ntmps97
  go_wp2
  rw [Lib.run_to_unsafe w ⟨b, 0, none⟩ Tryd.underlying83 Tryd.underlying175 hj (by rw [hjs]; decide) hsh (Nat.zero_lt_succ 1)]
  simp only [Result.andThen]
  rw [Oper.upon_value]
  go_wp2
  rw [run_callFunc_extern Tryd.func119 (by kernel_rfl) (by kernel_rfl) (by kernel_rfl) (e := Extern.AbiNoEscape.same) (by kernel_rfl)]
  rw [Lib.run_noEscape]
  simp only [Result.andThen]
  rw [Oper.upon_value]
  go_wp2
  rw [Lib.run_from_unsafe w ⟨b, 0, none⟩ Tryd.underlying175 Tryd.underlying83 hj hsh Tryd.Builder_Extra_169.liesBuilder]
  simp only [Result.andThen]
  rw [Oper.upon_value]
  go_wp2
  go_end0
  exact ⟨rfl, rfl⟩

theorem copy_any (B b : Nat) (bs : List Value) (w : World) (h : Lib.IsBuilder 86 5 B b bs w) :
    Calls Tryd.prog 97 #[.pointer (some ⟨b, 0, none⟩)] w fun e w' => e = .returned (.tuple #[]) ∧ (Lib.BuilderAt 86 5 B b (.pointer (some ⟨b, 0, none⟩)) bs w' ∧ Below B w w' ∧ Kt w w') := by
  rcases h with h | h
  · refine (copy_fresh b w h.cell0 h.shape h.frozen0).mono ?_
    rintro e w' ⟨rfl, rfl⟩
    obtain ⟨_, v, hb, _⟩ := id h
    exact ⟨rfl, h.used _, (Below.refl B w).setCell (p := ⟨b, 0, none⟩) h.1 _, Kt.setCell hb _⟩
  · refine (copy_used b w h.cell0).mono ?_
    rintro e w' ⟨rfl, rfl⟩
    exact ⟨rfl, h, Below.refl B _, Kt.refl _⟩

set_option maxHeartbeats 2000000 in
set_option maxRecDepth 100000 in
theorem writeByte_any (B b : Nat) (bs : List Value) (c : Int) (w : World) (h : Lib.IsBuilder 86 5 B b bs w) (hlen : bs.length + 1 ≤ 140737488355328) (hBw : B ≤ w.heap.size) :
    Calls Tryd.prog 118 #[.pointer (some ⟨b, 0, none⟩), .int .u8 c] w fun e w' => e = .returned .nilIface ∧ (Lib.BuilderAt 86 5 B b (.pointer (some ⟨b, 0, none⟩)) (bs ++ [.int .u8 c]) w' ∧ Below B w w' ∧ Kt w w') := by
  obtain ⟨i0, hi, hz0, hz1, hz2⟩ := info_parts infoByte
  go_enter Tryd.func118, Tryd.ntmps118
  go_wp2_with fail
  refine (copy_any B b bs _ h).mono ?_
  rintro e w1 ⟨rfl, h1, hb1, hk1⟩
  have HK1 := Lib.hid hk1; clear hk1
  obtain ⟨hB, v, hbk, hown, hne⟩ := h1
  have c0 : w1.cell? ⟨b, 0, none⟩ = some (.pointer (some ⟨b, 0, none⟩)) := by rw [Lib.cell_of_heap hbk]; rfl
  have c1 : w1.cell? ⟨b, 1, none⟩ = some v := by rw [Lib.cell_of_heap hbk]; rfl
  go_wp2_with (at_builtin; refine wpList_append_own _ rfl _ _ 84 rfl B 5 i0 (.int .u8 0) 1 1 Tryd.underlying84 hi hz0 hz1 hz2 rfl (by decide) _ _ _ rfl (hown.alloc _) ⟨w1.heap.size, 0, none⟩ 1 1 [.int .u8 c] rfl rfl ?c1 ?c2 ?c3 ?c4 ?c5 ?_)
  case c1 =>
    intro j u hj
    match j, hj with
    | 0, hj => simp at hj; subst hj; simp [Addr.add]
  case c2 => intro u hu; simp at hu; subst hu; rfl
  case c3 => unfold maxLen; omega
  case c4 => omega
  case c5 => have := hb1.size; simp; omega
  intro v' w2 hown' hgrow _
  have HK2 : Hid (Kt w w2) := (HK1.out.trans (Kt.alloc _ _)).trans (Kt.grown (hown.alloc _) hgrow)
  have hlt : b < w1.heap.size := (Array.getElem?_eq_some_iff.1 hbk).1
  have hb2 : w2.heap[b]? = some (.cells #[.pointer (some ⟨b, 0, none⟩), v] 86 (0, 0)) := by
    rw [hgrow.block b (by simp; omega) (fun e => hne e.symm), Lib.alloc_old w1 _ b hlt]
    exact hbk
  have d0 : w2.cell? ⟨b, 0, none⟩ = some (.pointer (some ⟨b, 0, none⟩)) := by rw [Lib.cell_of_heap hb2]; rfl
  have d1 : w2.cell? ⟨b, 1, none⟩ = some v := by rw [Lib.cell_of_heap hb2]; rfl
  have f1 : w2.frozen? ⟨b, 1, none⟩ = false := Lib.frozen_of_heap hb2 1
  obtain ⟨g, cap, rfl⟩ : ∃ g cap, v' = .slice (some ⟨g, 0, none⟩) (bs.length + 1) cap := by
    rcases hown'.2 with ⟨_, h0⟩ | ⟨g, cap, cur, hv, _⟩
    · omega
    · exact ⟨g, cap, hv⟩
  go_wp2
  go_ret
  refine ⟨rfl, ?_, ?_, HK2.out.trans (Kt.setCell hb2 _)⟩
  · exact Lib.BuilderAt.put (T := 86) (e := 5) hB hb2 (bs' := bs ++ [.int .u8 c]) (by simpa using hown') (by decide)
  · exact ((hb1.alloc (by have := hb1.size; omega) _).grown hgrow (by have := hb1.size; simp; omega) (fun k hk => (hown.lt k hk).1)).setCell (p := ⟨b, 1, none⟩) hB _

set_option maxHeartbeats 2000000 in
set_option maxRecDepth 100000 in
theorem writeString_any (B b : Nat) (bs : List Value) (s : ByteArray) (w : World) (h : Lib.IsBuilder 86 5 B b bs w) (hlen : bs.length + s.size ≤ 140737488355328) (hBw : B ≤ w.heap.size) :
    Calls Tryd.prog 67 #[.pointer (some ⟨b, 0, none⟩), .string s] w fun e w' => e = .returned (.tuple #[.int .i64 s.size, .nilIface]) ∧ (Lib.BuilderAt 86 5 B b (.pointer (some ⟨b, 0, none⟩)) (bs ++ Lib.strCells s) w' ∧ Below B w w' ∧ Kt w w') := by
  obtain ⟨i0, hi, hz0, hz1, hz2⟩ := info_parts infoByte
  go_enter Tryd.func67, Tryd.ntmps67
  go_wp2_with fail
  refine (copy_any B b bs _ h).mono ?_
  rintro e w1 ⟨rfl, h1, hb1, hk1⟩
  have HK1 := Lib.hid hk1; clear hk1
  obtain ⟨hB, v, hbk, hown, hne⟩ := h1
  have c0 : w1.cell? ⟨b, 0, none⟩ = some (.pointer (some ⟨b, 0, none⟩)) := by rw [Lib.cell_of_heap hbk]; rfl
  have c1 : w1.cell? ⟨b, 1, none⟩ = some v := by rw [Lib.cell_of_heap hbk]; rfl
  go_wp2_with (at_builtin; refine Lib.wpList_append_own_string _ rfl _ _ 84 9 rfl B 5 i0 Tryd.underlying84 Tryd.underlying9 hi hz0 hz1 hz2 _ _ _ rfl hown s rfl ?c3 ?c4 ?c5 ?_)
  case c3 => unfold maxLen; omega
  case c4 => omega
  case c5 => have := hb1.size; omega
  intro v' w2 hown' hgrow _
  have HK2 : Hid (Kt w w2) := HK1.out.trans (Kt.grown hown hgrow)
  have hlt : b < w1.heap.size := (Array.getElem?_eq_some_iff.1 hbk).1
  have hb2 : w2.heap[b]? = some (.cells #[.pointer (some ⟨b, 0, none⟩), v] 86 (0, 0)) := by
    rw [hgrow.block b hlt (fun e => hne e.symm)]
    exact hbk
  have d0 : w2.cell? ⟨b, 0, none⟩ = some (.pointer (some ⟨b, 0, none⟩)) := by rw [Lib.cell_of_heap hb2]; rfl
  have d1 : w2.cell? ⟨b, 1, none⟩ = some v := by rw [Lib.cell_of_heap hb2]; rfl
  have f1 : w2.frozen? ⟨b, 1, none⟩ = false := Lib.frozen_of_heap hb2 1
  obtain ⟨ao, n', cap, rfl⟩ : ∃ ao n' cap, v' = .slice ao n' cap := by
    rcases hown'.2 with ⟨hv, _⟩ | ⟨g, cap, cur, hv, _⟩
    · exact ⟨_, _, _, hv⟩
    · exact ⟨_, _, _, hv⟩
  go_wp2
  go_ret2
  refine ⟨rfl, ?_, ?_, HK2.out.trans (Kt.setCell hb2 _)⟩
  · exact Lib.BuilderAt.put (T := 86) (e := 5) hB hb2 (bs' := bs ++ Lib.strCells s) (by simpa [Lib.strCells_length] using hown') (by decide)
  · exact (hb1.grown hgrow (by have := hb1.size; omega) (fun k hk => (hown.lt k hk).1)).setCell (p := ⟨b, 1, none⟩) hB _
end Go.Proofs.YtiphbincnnppdaaDoor

namespace Go.Proofs.YtiphbincnnppdaaDoor
open Go.RowKit Go.Shelf
attribute [local go_sem] Oper.semAt_some

def KeepB (lo : Nat) (A B : World) : Prop := B.heap[lo]? = A.heap[lo]?
theorem keepB_t {lo : Nat} {A B C : World} (h : KeepB lo A B) (k : KeepB lo B C) : KeepB lo A C := k.trans h
theorem keepB_put {lo m : Nat} (h : lo < m) (W : World) (l : Nat) (o : Obj) (hl : m ≤ l) : KeepB lo W (W.putObj l o) := World.putObj_heap_other (by omega)
def StB (lo : Nat) (A B : World) : Prop := ∃ v, B = A.setCell ⟨lo, 0, none⟩ (.int .i64 v)
theorem stB_others {lo : Nat} (A B : World) (h : StB lo A B) : KeepsOthers A B := by
  obtain ⟨v, rfl⟩ := h
  exact KeepsOthers.setCell _ _ _
def numAt (lo : Nat) (w : World) : Nat := match w.cell? ⟨lo, 0, none⟩ with
  | some (.int _ n) => n.toNat
  | _ => 0
theorem numAt_eq {lo : Nat} {w : World} {n : Nat} (h : w.heap[lo]? = some (.cells #[.int .i64 n] 3 (0, 0))) : numAt lo w = n := by
  have := cell_of_one h
  simp [numAt, this]

set_option maxRecDepth 100000 in
set_option maxHeartbeats 1000000 in
theorem digits_st (n lo : Nat) (hn : 1 ≤ n) (m : Nat) (w : World) (hm : m ≤ 9223372036854775807) (hlo : lo < w.heap.size) (h0 : w.heap[lo]? = some (.cells #[.int .i64 m] 3 (0, 0))) :
    SeqP Fence.wide n Tryd.prog 134 #[.pointer (some ⟨lo, 0, none⟩)] (fun x : UInt8 => #[.int .u8 x.toNat]) (KeepB lo) (StB lo)
      (fun pre => ∃ r, pre ++ r = encN m) (fun xs => xs = encN m) (fun pre => ∃ r, pre ++ r = encN m) w := fun l J Jx W hW hJ hY hJ0 => by
  have g0 : W.heap[lo]? = some (.cells #[.int .i64 m] 3 (0, 0)) := (hW.block lo (by omega)).trans h0
  clear hW h0
  have G0 := Lib.hid g0; have HJ := Lib.hid hJ; have HY := Lib.hid hY; have HJ0 := Lib.hid hJ0
  clear g0 hJ hY hJ0
  refine callsIn_of_wp Tryd.func134 rfl trivial ?_ rfl
  simp only [Tryd.ntmps134, List.size_toArray, List.length_cons, List.length_nil, Nat.reduceAdd, Nat.reduceSub, Array.replicate_succ, Array.replicate_zero, List.push_toArray, List.append_toArray, List.nil_append, List.cons_append]
  gi_wp2_with fail
  gi_loopw [3, 4] (fun _ _ wr => ∃ (pre : Bytes) (c : Nat), c ≤ 9223372036854775807 ∧ Hid (wr.heap[lo]? = some (.cells #[.int .i64 c] 3 (0, 0))) ∧ Hid (pre ++ encN c = encN m) ∧ J pre wr)
    (fun _ _ wr => numAt lo wr)
  case atStart => exact ⟨[], m, hm, G0, rfl, HJ0.out⟩
  case round =>
    obtain ⟨pre, c, hc, k0, hsp, hj⟩ := hrel
    have d0 := cell_of_one k0.out
    have f0 := free_of_one k0.out
    have HJR := Lib.hid hj
    clear hj
    by_cases hs : c < 128
    · have e8 := toNat_ofNat8 (n := c) (by omega)
      obtain ⟨fn, tmps, assign, body, hy, hR⟩ := HY.out pre (UInt8.ofNat c) wr ⟨[], by rw [List.append_nil, ← hsp.out, encN_small hs]⟩ HJR.out
      rw [e8] at hy
      have HR := Lib.hid hR
      have HE := Lib.hid (encN_small hs)
      clear hR e8
      have hci : ¬ (128 : Int) ≤ (c : Int) := by omega
      gi_wp2
      refine HR.out.mono ?_
      rintro e W3 (⟨rfl, hJ3, _⟩ | ⟨rfl, hJx3⟩)
      · gi_wp2
        go_end0
        exact ⟨⟨_, rfl⟩, .inl ⟨pre ++ [UInt8.ofNat c], by rw [← hsp.out, HE.out], hJ3⟩⟩
      · gi_wp2
        go_end0
        exact ⟨⟨_, rfl⟩, .inr ⟨pre ++ [UInt8.ofNat c], ⟨[], by rw [← hsp.out, HE.out, List.append_nil]⟩, hJx3⟩⟩
    · have e8 := toNat_ofNat8 (n := c % 128 + 128) (by omega)
      have ei : (((UInt8.ofNat (c % 128 + 128)).toNat : Nat) : Int) = (c : Int) % 128 + 128 := by rw [e8]; omega
      obtain ⟨fn, tmps, assign, body, hy, hR⟩ := HY.out pre (UInt8.ofNat (c % 128 + 128)) wr ⟨encN (c / 128), by rw [← hsp.out, encN_big hs, List.append_assoc]; rfl⟩ HJR.out
      rw [ei] at hy
      have HR := Lib.hid hR
      have HE := Lib.hid (encN_big hs)
      clear hR e8 ei
      have hci : (128 : Int) ≤ (c : Int) := by omega
      gi_wp2
      refine HR.out.mono ?_
      rintro e W3 (⟨rfl, hJ3, hK3⟩ | ⟨rfl, hJx3⟩)
      · have m0 : W3.heap[lo]? = some (.cells #[.int .i64 c] 3 (0, 0)) := hK3.trans k0.out
        have e0 := cell_of_one m0; have q0 := free_of_one m0
        have M0 := Lib.hid m0
        have HJ3 := Lib.hid hJ3
        clear m0 hJ3 hK3 d0 f0
        gi_wp2
        go_roundw
        case rel =>
          refine ⟨pre ++ [UInt8.ofNat (c % 128 + 128)], c / 128, by omega, one_setCell M0.out, ?_, HJ.out _ _ _ HJ3.out ⟨_, rfl⟩⟩
          show _ = _
          rw [← hsp.out, HE.out, List.append_assoc]; rfl
        case measure =>
          have hq := one_setCell (u := .int .i64 ((c / 128 : Nat) : Int)) M0.out
          rw [show (c : Int) / 128 = ((c / 128 : Nat) : Int) by omega, numAt_eq hq, numAt_eq k0.out]
          omega
      · gi_wp2
        refine bodyPost_ret (results_none rfl _ _ _) rfl ?_
        exact ⟨⟨_, rfl⟩, .inr ⟨pre ++ [UInt8.ofNat (c % 128 + 128)], ⟨encN (c / 128), by rw [← hsp.out, HE.out, List.append_assoc]; rfl⟩, hJx3⟩⟩

set_option maxHeartbeats 400000 in
theorem digits_any (m : Int) (w : World) :
    Calls Tryd.prog 117 #[.int .i64 m] w fun e w' => e = .returned (.func (.func 134) #[] #[.pointer (some ⟨w.heap.size, 0, none⟩)]) ∧ w' = w.alloc (.cells #[.int .i64 m] 3) := by
  go_enter Tryd.func117, Tryd.ntmps117
  go_wp2
  go_ret
  exact ⟨rfl, rfl⟩

/-- a builder stays while what is no cells turns -/
theorem builder_own {B b : Nat} {p : Value} {bs : List Value} {W W' : World} {row : Option Nat} (h : Lib.BuilderAt 86 5 B b p bs W) (hg : W.grownBy W' row) (hr : ∀ r, row = some r → ∃ o : Obj, W.heap[r]? = some o ∧ o.isCells = false) : Lib.BuilderAt 86 5 B b p bs W' := by
  obtain ⟨hB, v, hb, hown, hne⟩ := h
  have key : ∀ (k : Nat) (cs : Array Value) (t : TypeId) (fr : Nat × Nat), W.heap[k]? = some (Obj.cells cs t fr) → W'.heap[k]? = some (Obj.cells cs t fr) := fun k cs t fr hk =>
    (hg.block k (Array.getElem?_eq_some_iff.1 hk).1 (fun e => by
      obtain ⟨o, ho, hc⟩ := hr k e.symm
      rw [ho] at hk; cases hk; cases hc)).trans hk
  refine ⟨hB, v, key _ _ _ _ hb, ⟨hown.1, ?_⟩, hne⟩
  rcases hown.2 with h0 | ⟨g, cap, cur, hv, h1, hh, h2⟩
  · exact .inl h0
  · exact .inr ⟨g, cap, cur, hv, h1, key _ _ _ _ hh, h2⟩
theorem isBuilder_own {B b : Nat} {bs : List Value} {W W' : World} {row : Option Nat} (h : Lib.IsBuilder 86 5 B b bs W) (hg : W.grownBy W' row) (hr : ∀ r, row = some r → ∃ o : Obj, W.heap[r]? = some o ∧ o.isCells = false) : Lib.IsBuilder 86 5 B b bs W' := by
  rcases h with h | h
  · exact .inl (builder_own h hg hr)
  · exact .inr (builder_own h hg hr)
/-- .. and while a box of another type is written -/
theorem isBuilder_box {B b lo : Nat} {bs : List Value} {W : World} {v u : Value} (h : Lib.IsBuilder 86 5 B b bs W) (hlo : W.heap[lo]? = some (.cells #[v] 3 (0, 0))) : Lib.IsBuilder 86 5 B b bs (W.setCell ⟨lo, 0, none⟩ u) := by
  have key : ∀ (k : Nat) (cs : Array Value) (t : TypeId) (fr : Nat × Nat), t ≠ 3 → W.heap[k]? = some (Obj.cells cs t fr) → (W.setCell ⟨lo, 0, none⟩ u).heap[k]? = some (Obj.cells cs t fr) := fun k cs t fr h3 hk =>
    (Below.heap_setCell W ⟨lo, 0, none⟩ u k (fun e => by
      have e' : k = lo := e
      rw [e', hlo] at hk
      simp only [Option.some.injEq, Obj.cells.injEq] at hk
      exact h3 hk.2.1.symm)).trans hk
  have one : ∀ p, Lib.BuilderAt 86 5 B b p bs W → Lib.BuilderAt 86 5 B b p bs (W.setCell ⟨lo, 0, none⟩ u) := by
    rintro p ⟨hB, v', hb, hown, hne⟩
    refine ⟨hB, v', key _ _ _ _ (by decide) hb, ⟨hown.1, ?_⟩, hne⟩
    rcases hown.2 with h0 | ⟨g, cap, cur, hv, h1, hh, h2⟩
    · exact .inl h0
    · exact .inr ⟨g, cap, cur, hv, h1, key _ _ _ _ (by decide) hh, h2⟩
  rcases h with h | h
  · exact .inl (one _ h)
  · exact .inr (one _ h)
theorem isBuilder_alloc {B b : Nat} {bs : List Value} {W : World} (h : Lib.IsBuilder 86 5 B b bs W) (o : Obj) : Lib.IsBuilder 86 5 B b bs (W.alloc o) :=
  isBuilder_own h (World.grownBy_alloc W o none) (fun r e => by cases e)

theorem byteCells_snoc (l : Bytes) (x : UInt8) : Lib.byteCells l ++ [.int .u8 x.toNat] = Lib.byteCells (l ++ [x]) := by simp [Lib.byteCells]
theorem byteCells_len (l : Bytes) : (Lib.byteCells l).length = l.length := by simp [Lib.byteCells]

set_option maxRecDepth 100000 in
set_option maxHeartbeats 2000000 in
theorem writeInt_any (B b : Nat) (bs : Bytes) (m : Nat) (w : World) (h : Lib.IsBuilder 86 5 B b (Lib.byteCells bs) w) (hBw : B ≤ w.heap.size) (hm : m ≤ 1099511627776) (hlen : bs.length ≤ 1099511627776) :
    Calls Tryd.prog 96 #[.pointer (some ⟨b, 0, none⟩), .int .i64 m] w fun e w' => e = .returned (.tuple #[]) ∧ Lib.IsBuilder 86 5 B b (Lib.byteCells (bs ++ encN m)) w' ∧ Below B w w' := by
  refine (callsIn_wide (n := 6)).1 ?_
  have hf78 : Fence.wide.fn 117 := trivial
  have hf79 : Fence.wide.fn 118 := trivial
  have HH := Lib.hid h; clear h
  refine callsIn_of_wp_marks Tryd.func96 rfl trivial ?_ rfl
  simp only [Tryd.ntmps96, List.size_toArray, List.length_cons, List.length_nil, Nat.reduceAdd, Nat.reduceSub, Array.replicate_succ, Array.replicate_zero, List.push_toArray, List.append_toArray, List.nil_append, List.cons_append]
  gi_wp2_with (gi_at_call 117; refine (callsIn_wide.2 (digits_any _ _)).mono ?_; rintro e w' ⟨rfl, rfl⟩)
  obtain ⟨W0, hW0⟩ : ∃ W0, (w.alloc (.cells #[.pointer (some ⟨b, 0, none⟩)] 83)).alloc (.cells #[.int .i64 m] 3) = W0 := ⟨_, rfl⟩
  have hz : W0.heap.size = w.heap.size + 2 := by rw [← hW0]; simp
  have g0 : W0.heap[w.heap.size]? = some (.cells #[.pointer (some ⟨b, 0, none⟩)] 83 (0, 0)) := by
    rw [← hW0]
    exact (Below.heap_alloc _ _ _ (by simp)).trans (World.alloc_heap_new w _)
  have g1 : W0.heap[w.heap.size + 1]? = some (.cells #[.int .i64 m] 3 (0, 0)) := by
    rw [← hW0]
    have := World.alloc_heap_new (w.alloc (.cells #[.pointer (some ⟨b, 0, none⟩)] 83)) (.cells #[.int .i64 m] 3); rwa [World.size_alloc] at this
  have hb0 : Below B w W0 := by
    rw [← hW0]
    exact ((Below.refl _ w).alloc hBw _).alloc (by simp; omega) _
  have hbd : Lib.IsBuilder 86 5 B b (Lib.byteCells bs) W0 := by
    rw [← hW0]; exact isBuilder_alloc (isBuilder_alloc HH.out _) _
  rw [hW0]
  refine wpIn_rangeP (F := Fence.wide) (n := 6) rfl (by omega) (gf := 134) (lb := #[.pointer (some ⟨w.heap.size + 1, 0, none⟩)]) rfl trivial (enters_of Tryd.func134 (by kernel_rfl) rfl)
    (digits_st 5 (w.heap.size + 1) (by omega) m W0 (by omega) (by omega) g1) keepB_t (fun W l o hl => keepB_put (m := w.heap.size + 2) (by omega) W l o (by omega)) stB_others (Below.refl _ _) (fun _ => rfl)
    (fun pre W => W.heap[w.heap.size]? = some (.cells #[.pointer (some ⟨b, 0, none⟩)] 83 (0, 0)) ∧ (∃ c, W.heap[w.heap.size + 1]? = some (.cells #[.int .i64 c] 3 (0, 0))) ∧ Lib.IsBuilder 86 5 B b (Lib.byteCells (bs ++ pre)) W ∧ Below B w W)
    (fun _ _ _ => False) ?hI ?hIx ?hIS ⟨g0, ⟨_, g1⟩, by rw [List.append_nil]; exact hbd, hb0⟩
    (fun x => { tmps := #[.pointer (some ⟨b, 0, none⟩), .int .i64 m, .pointer (some ⟨w.heap.size, 0, none⟩), undef, .int .u8 x.toNat, .int .i64 m, .func (.func 134) #[] #[.pointer (some ⟨w.heap.size + 1, 0, none⟩)], .int .u8 x.toNat, undef, undef, undef], defers := [] }) ?assign ?body ?done ?stop
  case hI =>
    rintro pre A C row ⟨h1, ⟨c, h2⟩, h3, h4⟩ hg hr
    have hnc : ∀ r, row = some r → ∃ o : Obj, A.heap[r]? = some o ∧ o.isCells = false := fun r e => (hr r e).2
    have key : ∀ (k : Nat) (v : Value) (t : TypeId), A.heap[k]? = some (Obj.cells #[v] t (0, 0)) → C.heap[k]? = some (Obj.cells #[v] t (0, 0)) := fun k v t hk =>
      (hg.block k (lt_of_block hk) (fun e => by
        obtain ⟨o, ho, hc⟩ := hnc k e.symm
        rw [ho] at hk; cases hk; cases hc)).trans hk
    exact ⟨key _ _ _ h1, ⟨c, key _ _ _ h2⟩, isBuilder_own h3 hg hnc, h4.grown hg (Nat.le_trans hBw h4.size) (fun k e => by have := (hr _ e).1; omega)⟩
  case hIx => rintro c pre A C row hf _ _; exact hf
  case hIS =>
    rintro pre A C ⟨h1, ⟨c, h2⟩, h3, h4⟩ ⟨v, rfl⟩
    exact ⟨(Below.heap_setCell _ _ _ _ (by simp)).trans h1, ⟨v, one_setCell h2⟩, isBuilder_box h3 h2, h4.setCell (p := ⟨w.heap.size + 1, 0, none⟩) (by show B ≤ w.heap.size + 1; omega) _⟩
  case assign =>
    intro l x W K hK
    gi_wp2
    exact hK
  case body =>
    rintro l pre x W ⟨r, hr⟩ ⟨h1, ⟨c, h2⟩, h3, h4⟩
    have c0 := cell_of_one h1
    have hpl : pre.length + 1 ≤ 6 := by
      have e1 := congrArg List.length hr
      have e2 := encN_len 5 m (by omega)
      simp at e1; omega
    have H1 := Lib.hid h1; have H2 := Lib.hid h2; have H3 := Lib.hid h3; have H4 := Lib.hid h4
    clear h1 h2 h3 h4 g0 g1 hb0 hW0 hz hbd hr
    gi_wp2_with (gi_at_call 118; refine (CallsIn.inRound l (callsIn_wide.2 (writeByte_any B b (Lib.byteCells (bs ++ pre)) _ _ H3.out (by rw [byteCells_len, List.length_append]; omega) (Nat.le_trans hBw H4.out.size)))).mono ?_; rintro e w' ⟨rfl, k1, k2, k3⟩)
    refine ⟨k3.others, ?_, ?_⟩
    · show _ = _
      rw [k3.same _ _ _ _ (by decide) (by decide) H2.out, H2.out]
    · refine ⟨k3.same _ _ _ _ (by decide) (by decide) H1.out, ⟨c, k3.same _ _ _ _ (by decide) (by decide) H2.out⟩, ?_, H4.out.trans k2⟩
      rw [byteCells_snoc, List.append_assoc] at k1
      exact .inr k1
  case done =>
    rintro D xs W hD rfl ⟨h1, _, h3, h4⟩ hK
    have H3 := Lib.hid h3; have H4 := Lib.hid h4; have HK := Lib.hid hK
    clear h1 h3 h4 hK
    gi_wp2
    refine ⟨by simp, .inl ⟨_, _, rfl, run_takeDeferred HK.out, ?_⟩⟩
    refine ⟨_, results_none rfl _ _ _, rfl, ?_, ?_⟩
    · exact isBuilder_own H3.out (grownBy_putObj' _ _ _) (fun r e => by cases e; exact ⟨_, HK.out, rfl⟩)
    · exact H4.out.grown (grownBy_putObj' _ _ _) (Nat.le_trans hBw H4.out.size) (fun k e => by cases e; omega)
  case stop =>
    rintro D c pre W hD hS hf hK
    exact hf.elim
end Go.Proofs.YtiphbincnnppdaaDoor

namespace Go.Proofs.YtiphbincnnppdaaDoor
open Go.RowKit

theorem strCells_eq (s : ByteArray) : Lib.strCells s = Lib.byteCells (toL s) := by simp [Lib.strCells, Lib.byteCells, toL]
theorem inRange_any (n : Nat) (hn : n ≤ 1099511627776) (w : World) : Calls Tryd.prog 95 #[.int .i64 n] w fun e w' => e = .returned (.bool true) ∧ w = w' := by
  have h0 : (0 : Int) ≤ (n : Int) := by omega
  have h1 : (n : Int) ≤ 1099511627776 := by omega
  go_enter Tryd.func95, Tryd.ntmps95
  go_wp2
  go_ret
  exact ⟨rfl, rfl⟩

set_option maxHeartbeats 1000000 in
theorem putInt_any (n : Nat) (hn : n ≤ 1099511627776) (w : World) :
    Calls Tryd.prog 66 #[.int .i64 n] w fun e w' => e = .returned (.tuple #[.string (ofL (encN n)), .int .i64 0]) ∧ Below w.heap.size w w' := by
  go_enter Tryd.func66, Tryd.ntmps66
  go_wp2_with (go_at_call 95; refine (inRange_any n hn _).mono ?_; rintro e w' ⟨rfl, rfl⟩)
  have hb := Lib.fresh_isBuilder 86 5 w
  refine (writeInt_any w.heap.size w.heap.size [] n _ hb (by simp) hn (by simp)).mono ?_
  rintro e w1 ⟨rfl, h1, hb1⟩
  rw [List.nil_append] at h1
  have H1 := Lib.hid h1
  have HB1 : Hid (Below w.heap.size w w1) := ((Below.refl _ w).alloc (Nat.le_refl _) _).trans hb1
  clear hb hb1 h1
  go_wp2_with fail
  refine (Tryd.Builder_String_any w.heap.size w.heap.size (encN n) _ H1.out HB1.out.size).mono ?_
  rintro e w2 ⟨rfl, hb2⟩
  have HB2 := Lib.hid (HB1.out.trans hb2); clear hb2
  go_wp2_with fail
  go_ret2
  exact ⟨rfl, HB2.out⟩

set_option maxHeartbeats 1000000 in
theorem putText_any (s : ByteArray) (hs : s.size ≤ 65536) (w : World) :
    Calls Tryd.prog 68 #[.string s] w fun e w' => e = .returned (.tuple #[.string (ofL (encT (toL s))), .int .i64 0]) ∧ Below w.heap.size w w' := by
  have hsi : ¬ (65536 : Int) < (s.size : Int) := by omega
  have hsz := size_toL s
  have HSZ := Lib.hid hsz; clear hsz
  go_enter Tryd.func68, Tryd.ntmps68
  go_wp2_with fail
  have hb := Lib.fresh_isBuilder 86 5 w
  refine (writeInt_any w.heap.size w.heap.size [] s.size _ hb (by simp) (by omega) (by simp)).mono ?_
  rintro e w1 ⟨rfl, h1, hb1⟩
  rw [List.nil_append] at h1
  have H1 := Lib.hid h1
  have HB1 : Hid (Below w.heap.size w w1) := ((Below.refl _ w).alloc (Nat.le_refl _) _).trans hb1
  clear hb hb1 h1
  go_wp2_with fail
  refine (writeString_any w.heap.size w.heap.size (Lib.byteCells (encN s.size)) s _ H1.out (by rw [byteCells_len]; have := encN_len 5 s.size (by omega); omega) HB1.out.size).mono ?_
  rintro e w2 ⟨rfl, h2, hb2, _⟩
  have H2 : Hid (Lib.IsBuilder 86 5 w.heap.size w.heap.size (Lib.byteCells (encT (toL s))) w2) := by
    refine .inr ?_
    have e1 : Lib.byteCells (encN s.size) ++ Lib.strCells s = Lib.byteCells (encT (toL s)) := by
      rw [strCells_eq]; unfold encT; rw [← HSZ.out]; simp [Lib.byteCells]
    rw [← e1]; exact h2
  have HB2 := Lib.hid (HB1.out.trans hb2)
  clear hb2 h2
  go_wp2_with fail
  refine (Tryd.Builder_String_any w.heap.size w.heap.size _ _ H2.out HB2.out.size).mono ?_
  rintro e w3 ⟨rfl, hb3⟩
  have HB3 := Lib.hid (HB2.out.trans hb3); clear hb3
  go_wp2_with fail
  go_ret2
  exact ⟨rfl, HB3.out⟩
end Go.Proofs.YtiphbincnnppdaaDoor

namespace Go.Proofs.YtiphbincnnppdaaDoor
open Go.RowKit Go.Shelf

theorem isBuilder_below {B b : Nat} {bs : List Value} {W W' : World} (h : Lib.IsBuilder 86 5 B b bs W) (hb : Below W.heap.size W W') : Lib.IsBuilder 86 5 B b bs W' := by
  have one : ∀ p, Lib.BuilderAt 86 5 B b p bs W → Lib.BuilderAt 86 5 B b p bs W' := by
    rintro p ⟨hB, v', hbk, hown, hne⟩
    have key : ∀ (k : Nat) (o : Obj), W.heap[k]? = some o → W'.heap[k]? = some o := fun k o hk => (hb.block k (Array.getElem?_eq_some_iff.1 hk).1).trans hk
    refine ⟨hB, v', key _ _ hbk, ⟨hown.1, ?_⟩, hne⟩
    rcases hown.2 with h0 | ⟨g, cap, cur, hv, h1, hh, h2⟩
    · exact .inl h0
    · exact .inr ⟨g, cap, cur, hv, h1, key _ _ hh, h2⟩
  rcases h with h | h
  · exact .inl (one _ h)
  · exact .inr (one _ h)
/-- Cells that are no builder and no bytes stay as they are. -/
def Kc (w w' : World) : Prop := ∀ (k : Nat) (cs : Array Value) (t : TypeId) (fr : Nat × Nat), t ≠ 5 → t ≠ 86 → w.heap[k]? = some (.cells cs t fr) → w'.heap[k]? = some (.cells cs t fr)
theorem Kc.trans {a b c : World} (h : Kc a b) (k : Kc b c) : Kc a c := fun i cs t fr h5 h9 hi => k i cs t fr h5 h9 (h i cs t fr h5 h9 hi)
theorem Kc.of_below {w w' : World} (h : Below w.heap.size w w') : Kc w w' := fun k _ _ _ _ _ hk => (h.block k (Array.getElem?_eq_some_iff.1 hk).1).trans hk
theorem Bk.kc {w w' : World} {b : Nat} {t : TypeId} {cs : Array Value} (h : Bk w b t cs) (hk : Kc w w') (h5 : t ≠ 5) (h9 : t ≠ 86) : Bk w' b t cs := hk b cs t (0, 0) h5 h9 h
theorem byteCells_app (a b : Bytes) : Lib.byteCells a ++ Lib.byteCells b = Lib.byteCells (a ++ b) := by simp [Lib.byteCells]
set_option maxHeartbeats 1000000 in
theorem number_any (B b : Nat) (bs : Bytes) (m : Nat) (w : World) (h : Lib.IsBuilder 86 5 B b (Lib.byteCells bs) w) (hBw : B ≤ w.heap.size) (hm : m ≤ 1099511627776) (hlen : bs.length ≤ 1099511627776) :
    Calls Tryd.prog 42 #[.pointer (some ⟨b, 0, none⟩), .int .i64 m] w fun e w' => e = .returned (.tuple #[]) ∧ Lib.IsBuilder 86 5 B b (Lib.byteCells (bs ++ encN m)) w' ∧ Below B w w' ∧ Kc w w' := by
  have HH := Lib.hid h; clear h
  go_enter Tryd.func42, Tryd.ntmps42
  go_wp2_with fail
  refine (putInt_any m hm _).mono ?_
  rintro e w1 ⟨rfl, hb1⟩
  have H1 := Lib.hid (isBuilder_below HH.out hb1)
  have HB1 := Lib.hid (hb1.mono hBw)
  have HK1 := Lib.hid (Kc.of_below hb1)
  have hz1 := hb1.size
  have hl6 : (encN m).length ≤ 6 := encN_len 5 m (by omega)
  clear hb1
  go_wp2_with fail
  refine (writeString_any B b (Lib.byteCells bs) (ofL (encN m)) _ H1.out (by rw [byteCells_len, size_ofL]; omega) (by omega)).mono ?_
  rintro e w2 ⟨rfl, h2, hb2, hk2⟩
  have H2 : Hid (Lib.IsBuilder 86 5 B b (Lib.byteCells (bs ++ encN m)) w2) := by
    refine .inr ?_
    rw [strCells_eq, toL_ofL, byteCells_app] at h2
    exact h2
  have HB2 := Lib.hid (HB1.out.trans hb2)
  have HK2 : Hid (Kc w w2) := HK1.out.trans hk2.same
  clear h2 hb2 hk2
  go_wp2_with fail
  go_end0
  exact ⟨rfl, H2.out, HB2.out, HK2.out⟩
set_option maxHeartbeats 1000000 in
theorem text_any (B b : Nat) (bs : Bytes) (s : ByteArray) (w : World) (h : Lib.IsBuilder 86 5 B b (Lib.byteCells bs) w) (hBw : B ≤ w.heap.size) (hs : s.size ≤ 65536) (hlen : bs.length ≤ 1099511627776) :
    Calls Tryd.prog 43 #[.pointer (some ⟨b, 0, none⟩), .string s] w fun e w' => e = .returned (.tuple #[]) ∧ Lib.IsBuilder 86 5 B b (Lib.byteCells (bs ++ encT (toL s))) w' ∧ Below B w w' ∧ Kc w w' := by
  have HH := Lib.hid h; clear h
  go_enter Tryd.func43, Tryd.ntmps43
  go_wp2_with fail
  refine (putText_any s hs _).mono ?_
  rintro e w1 ⟨rfl, hb1⟩
  have H1 := Lib.hid (isBuilder_below HH.out hb1)
  have HB1 := Lib.hid (hb1.mono hBw)
  have HK1 := Lib.hid (Kc.of_below hb1)
  have hz1 := hb1.size
  have hl6 : (encT (toL s)).length ≤ 65542 := by
    have := encN_len 5 (toL s).length (by rw [← size_toL]; omega)
    unfold encT; rw [List.length_append, ← size_toL] at *; omega
  clear hb1
  go_wp2_with fail
  refine (writeString_any B b (Lib.byteCells bs) (ofL (encT (toL s))) _ H1.out (by rw [byteCells_len, size_ofL]; omega) (by omega)).mono ?_
  rintro e w2 ⟨rfl, h2, hb2, hk2⟩
  have H2 : Hid (Lib.IsBuilder 86 5 B b (Lib.byteCells (bs ++ encT (toL s))) w2) := by
    refine .inr ?_
    rw [strCells_eq, toL_ofL, byteCells_app] at h2
    exact h2
  have HB2 := Lib.hid (HB1.out.trans hb2)
  have HK2 : Hid (Kc w w2) := HK1.out.trans hk2.same
  clear h2 hb2 hk2
  go_wp2_with fail
  go_end0
  exact ⟨rfl, H2.out, HB2.out, HK2.out⟩

def encFs (fs : List Fl) : Bytes := fs.flatMap fun f => encT (toL f.1) ++ encT (toL f.2)
def encO (fd : Bool) (msg : ByteArray) (fs : List Fl) : Bytes := encN (if fd = true then 1 else 0) ++ encT (toL msg) ++ encN fs.length ++ encFs fs
noncomputable def encOR (fd : Bool) (msg : ByteArray) (fs : List Fl) : Bytes × Int := if chkO fd msg fs = 0 then (encO fd msg fs, 0) else ([], chkO fd msg fs)
theorem labL_len {l : Bytes} (h : labL l = true) : l.length ≤ 90 := by
  unfold labL at h; simp only [Bool.and_eq_true, decide_eq_true_eq] at h; exact h.1
theorem fnB_len {s : ByteArray} (h : fnB s = true) : s.size ≤ 98 := by
  obtain ⟨a, ha, r, hr, hl⟩ := (fnB_iff s).1 h
  have h1 : ∀ a ∈ fwords, a.length ≤ 7 := by decide
  have := h1 a ha
  have h2 := labL_len hl
  rw [size_len]
  have e : s.data.toList = bl s := rfl
  rw [e, hr]; simp; omega
theorem chkF_zero : ∀ {p : Option ByteArray} {fs : List Fl}, chkF p fs = 0 → ∀ f ∈ fs, fnB f.1 = true ∧ f.2.size ≤ 65536
  | _, [], _, _, h => by cases h
  | p, g :: r, h, f, hf => by
    rw [chkF] at h
    by_cases h1 : fnB g.1 = false
    · rw [if_pos h1] at h; cases h
    · rw [if_neg h1] at h
      by_cases h2 : 65536 < g.2.size
      · rw [if_pos h2] at h; cases h
      · rw [if_neg h2] at h
        by_cases h3 : okP p g.1 = false
        · rw [if_pos h3] at h; cases h
        · rw [if_neg h3] at h
          rcases List.mem_cons.1 hf with rfl | hf
          · exact ⟨by simpa using h1, by omega⟩
          · exact chkF_zero h f hf
/-- what a valid output is like -/
theorem chkO_zero {fd : Bool} {msg : ByteArray} {fs : List Fl} (h : chkO fd msg fs = 0) : msg.size ≤ 300 ∧ fs.length ≤ 10 ∧ ∀ f ∈ fs, f.1.size ≤ 98 ∧ f.2.size ≤ 65536 := by
  unfold chkO at h
  cases fd with
  | true =>
    rw [if_pos rfl] at h
    by_cases h1 : msg.size = 0 ∨ 0 < fs.length
    · rw [if_pos h1] at h; cases h
    · rw [if_neg h1] at h
      by_cases h2 : 300 < msg.size
      · rw [if_pos h2] at h; cases h
      · have : fs = [] := List.length_eq_zero_iff.1 (by omega)
        subst this
        exact ⟨by omega, by simp, fun f hf => by cases hf⟩
  | false =>
    rw [if_neg (by decide)] at h
    by_cases h1 : msg.size ≠ 0
    · rw [if_pos h1] at h; cases h
    · rw [if_neg h1] at h
      by_cases h2 : 10 < fs.length
      · rw [if_pos h2] at h; cases h
      · rw [if_neg h2] at h
        exact ⟨by omega, by omega, fun f hf => ⟨fnB_len (chkF_zero h f hf).1, (chkF_zero h f hf).2⟩⟩
theorem encT_len (t : Bytes) (h : t.length ≤ 65536) : (encT t).length ≤ 65542 := by
  have := encN_len 5 t.length (by omega)
  unfold encT; rw [List.length_append]; omega
theorem encFs_len : ∀ {fs : List Fl}, (∀ f ∈ fs, f.1.size ≤ 98 ∧ f.2.size ≤ 65536) → (encFs fs).length ≤ fs.length * 131084
  | [], _ => by simp [encFs]
  | f :: fs, h => by
    have ih := encFs_len (fs := fs) fun g hg => h g (by simp [hg])
    have h1 := h f (by simp)
    have a1 := encT_len (toL f.1) (by rw [← size_toL]; omega)
    have a2 := encT_len (toL f.2) (by rw [← size_toL]; omega)
    unfold encFs at ih ⊢
    rw [List.flatMap_cons, List.length_append, List.length_append, List.length_cons]; omega
theorem encFs_snoc {fs : List Fl} {k : Nat} {f : Fl} (h : fs[k]? = some f) : encFs (fs.take (k + 1)) = encFs (fs.take k) ++ encT (toL f.1) ++ encT (toL f.2) := by
  rw [take_snoc h]; simp [encFs]

def EncEnd (fd : Bool) (msg : ByteArray) (fs : List Fl) (w : World) (e : Ending) (w' : World) : Prop :=
  e = .returned (.tuple #[.string (ofL (encOR fd msg fs).1), .int .i64 (encOR fd msg fs).2]) ∧ Below w.heap.size w w'
set_option maxRecDepth 100000 in
set_option maxHeartbeats 4000000 in
theorem encodeOutput_any (fd : Bool) (msg : ByteArray) (A : Option Addr) (n c B : Nat) (fs : List Fl) (w : World) (h0 : Sl w B 2 A n (flat flC fs)) (hB : B ≤ w.heap.size) (hn : n ≤ maxLen) (hfs : ∀ f ∈ fs, f.1.size ≤ maxLen) :
    Calls Tryd.prog 23 #[.agg #[.bool fd, .string msg, .slice A n c]] w (EncEnd fd msg fs w) := by
  have HL := Lib.hid (h0.len flC_len (by omega))
  obtain ⟨W, hW⟩ : ∃ W, w.alloc (.cells #[.bool fd, .string msg, .slice A n c] 62) = W := ⟨_, rfl⟩
  have HB : Hid (Below w.heap.size w W) := by rw [← hW]; exact (Below.refl w.heap.size w).alloc (Nat.le_refl _) _
  have K0 : Hid (Bk W w.heap.size 62 #[.bool fd, .string msg, .slice A n c]) := by rw [← hW]; exact Bk.new w _ _
  have zW : W.heap.size = w.heap.size + 1 := by rw [← hW]; simp
  have H0 := Lib.hid h0; have HFS := Lib.hid hfs
  have HCK := Lib.hid (checkOutput_any fd msg A n c B fs W (h0.below HB.out hB) (by omega) hn hfs)
  clear h0 hfs
  have HR : Hid (∀ r, encOR fd msg fs = r → ∀ e w', e = Ending.returned (.tuple #[.string (ofL r.1), .int .i64 r.2]) → Below w.heap.size w w' → EncEnd fd msg fs w e w') := fun r h e w' h1 h2 => by subst h; exact ⟨h1, h2⟩
  go_enter Tryd.func23, Tryd.ntmps23
  have u0 := K0.out.cell 0; have u1 := K0.out.cell 1; have u2 := K0.out.cell 2
  simp at u0 u1 u2
  go_wp2_with fail
  refine HCK.out.mono ?_
  rintro e w1 ⟨rfl, hb1⟩
  have hz1 := hb1.size
  have HB1 : Hid (Below w.heap.size w w1) := HB.out.trans (hb1.mono (by omega))
  have K1 := Lib.hid (K0.out.below hb1 (by omega))
  clear u0 u1 u2 hb1 hW HCK
  by_cases hc : chkO fd msg fs = 0
  · have HV : Hid (encOR fd msg fs = (encO fd msg fs, 0)) := by show _ = _; unfold encOR; rw [if_pos hc]
    obtain ⟨hm3, hl10, hfl⟩ := chkO_zero hc
    rw [HL.out] at hl10
    have HFL := Lib.hid hfl
    rw [hc]
    clear hc hfl
    have u0 := (K1.out.alloc (.cells #[.pointer none, .slice none 0 0] 86)).cell 0; have u1 := (K1.out.alloc (.cells #[.pointer none, .slice none 0 0] 86)).cell 1; have u2 := (K1.out.alloc (.cells #[.pointer none, .slice none 0 0] 86)).cell 2
    simp at u0 u1 u2
    have hbd := Lib.fresh_isBuilder 86 5 w1
    obtain ⟨fn, hfn⟩ : ∃ fn : Nat, (if fd = true then 1 else 0) = fn := ⟨_, rfl⟩
    have hfn1 : fn ≤ 1 := by rw [← hfn]; split <;> omega
    have HN1 := Lib.hid (number_any w1.heap.size w1.heap.size [] fn _ hbd (by simp) (by omega) (by simp))
    have HEO : Hid (encO fd msg fs = encN fn ++ encT (toL msg) ++ encN n ++ encFs fs) := by show _ = _; unfold encO; rw [hfn, HL.out]
    have HFN : Hid (fd = true → fn = 1) := fun h => by rw [← hfn, if_pos h]
    have HFN0 : Hid (fd = false → fn = 0) := fun h => by rw [← hfn, if_neg (by rw [h]; decide)]
    clear hbd hfn
    cases fd with
    | true =>
      obtain rfl : fn = 1 := HFN.out rfl
      go_wp2_with fail
      refine HN1.out.mono ?_
      rintro e w2 ⟨rfl, k2, hb2, _⟩
      rw [List.nil_append] at k2
      have hz2 : w1.heap.size + 1 ≤ w2.heap.size := by have := hb2.size; simpa using this
      have hb12 : Below w1.heap.size w1 w2 := ((Below.refl _ w1).alloc (Nat.le_refl _) _).trans hb2
      have K2 := Lib.hid (K1.out.below hb12 (by omega))
      have HB2 : Hid (Below w.heap.size w w2) := HB1.out.trans (hb12.mono (by omega))
      have HN2 := Lib.hid (text_any w1.heap.size w1.heap.size (encN 1) msg w2 k2 (by omega) (by omega) (by have := encN_len 5 1 (by omega); omega))
      clear u0 u1 u2 k2 hb2 hb12 K1 HB1 HN1
      have u0 := K2.out.cell 0; have u1 := K2.out.cell 1; have u2 := K2.out.cell 2
      simp at u0 u1 u2
      go_wp2_with fail
      refine HN2.out.mono ?_
      rintro e w3 ⟨rfl, k3, hb3, _⟩
      have hz3 := hb3.size
      have K3 := Lib.hid (K2.out.below hb3 (by omega))
      have HB3 : Hid (Below w.heap.size w w3) := HB2.out.trans (hb3.mono (by omega))
      have hl3 : (encN 1 ++ encT (toL msg)).length ≤ 70000 := by
        have h1 := encN_len 5 1 (by omega)
        have h2 := encT_len (toL msg) (by rw [← size_toL]; omega)
        rw [List.length_append]; omega
      have HN3 := Lib.hid (number_any w1.heap.size w1.heap.size (encN 1 ++ encT (toL msg)) n w3 k3 (by omega) (by omega) (by omega))
      clear u0 u1 u2 k3 hb3 K2 HB2 HN2
      have u0 := K3.out.cell 0; have u1 := K3.out.cell 1; have u2 := K3.out.cell 2
      simp at u0 u1 u2
      go_wp2_with fail
      refine HN3.out.mono ?_
      rintro e w4 ⟨rfl, k4, hb4, _⟩
      have hz4 := hb4.size
      have K4 := Lib.hid (K3.out.below hb4 (by omega))
      have HB4 : Hid (Below w.heap.size w w4) := HB3.out.trans (hb4.mono (by omega))
      have KB4 := Lib.hid k4
      have hl4 : (encN 1 ++ encT (toL msg) ++ encN n).length ≤ 80000 := by
        have h1 := encN_len 5 n (by omega)
        rw [List.length_append]; omega
      clear u0 u1 u2 k4 hb4 K3 HB3 HN3
      obtain ⟨hd, hhd⟩ : ∃ hd, encN 1 ++ encT (toL msg) ++ encN n = hd := ⟨_, rfl⟩
      rw [hhd] at KB4 hl4 HEO
      have u0 := K4.out.cell 0; have u1 := K4.out.cell 1; have u2 := K4.out.cell 2
      simp at u0 u1 u2
      clear hhd
      go_wp2_with fail
      go_loopw [28] (fun q wr => ∃ k : Nat, k ≤ n ∧ q = .int .i64 k ∧ Hid (Lib.IsBuilder 86 5 w1.heap.size w1.heap.size (Lib.byteCells (hd ++ encFs (fs.take k))) wr) ∧ Hid (Below w.heap.size w wr) ∧ w1.heap.size + 1 ≤ wr.heap.size) (fun q _ => n - (intOf q).toNat)
      case atStart => exact ⟨0, Nat.zero_le _, rfl, by show Lib.IsBuilder _ _ _ _ _ _; simp [encFs]; exact KB4.out, HB4.out, by omega⟩
      case round =>
        obtain ⟨k, hk, rfl, hKB, hBel, hwz⟩ := hrel
        by_cases hlt : k < n
        · obtain ⟨b, off, f, rfl, hb, hf, y0, y1⟩ := (H0.out.below hBel.out hB).fl hlt
          have hlz : (k : Int) < (n : Int) := by omega
          have hft := HFL.out f (List.mem_of_getElem? hf)
          have HSN := Lib.hid (encFs_snoc hf)
          have hln : (encFs (fs.take k)).length ≤ 1310840 := by
            have h1 := encFs_len (fs := fs.take k) (fun g hg => HFL.out g (List.mem_of_mem_take hg))
            rw [List.length_take] at h1
            have h2 : min k fs.length ≤ 10 := by omega
            exact Nat.le_trans h1 (Nat.mul_le_mul_right _ h2)
          obtain ⟨W5, hW5⟩ : ∃ W5, wr.alloc (.cells #[.string f.1, .string f.2] 51) = W5 := ⟨_, rfl⟩
          have HB5 : Hid (Below w.heap.size w W5) := by rw [← hW5]; exact hBel.out.alloc hBel.out.size _
          have KF : Hid (Bk W5 wr.heap.size 51 #[.string f.1, .string f.2]) := by rw [← hW5]; exact Bk.new wr _ _
          have k5 : Lib.IsBuilder 86 5 w1.heap.size w1.heap.size (Lib.byteCells (hd ++ encFs (fs.take k))) W5 := by rw [← hW5]; exact isBuilder_alloc hKB.out _
          have hz5 : W5.heap.size = wr.heap.size + 1 := by rw [← hW5]; simp
          have HN5 := Lib.hid (text_any w1.heap.size w1.heap.size (hd ++ encFs (fs.take k)) f.1 W5 k5 (by omega) (by omega) (by rw [List.length_append]; omega))
          have x0 := KF.out.cell 0; simp at x0
          have HF := Lib.hid hf
          clear k5 hf u0 u1 u2
          go_wp2_with fail
          refine HN5.out.mono ?_
          rintro e w6 ⟨rfl, k6, hb6, hk6⟩
          have hz6 := hb6.size
          have KF6 := Lib.hid (KF.out.kc hk6 (by decide) (by decide))
          have HB6 : Hid (Below w.heap.size w w6) := HB5.out.trans (hb6.mono (by omega))
          have hl6 : (encT (toL f.1)).length ≤ 65542 := encT_len _ (by rw [← size_toL]; omega)
          have HN6 := Lib.hid (text_any w1.heap.size w1.heap.size (hd ++ encFs (fs.take k) ++ encT (toL f.1)) f.2 w6 k6 (by omega) (by omega) (by rw [List.length_append, List.length_append]; omega))
          clear x0 k6 hb6 hk6 KF HB5 HN5
          have x1 := KF6.out.cell 1; simp at x1
          go_wp2_with fail
          refine HN6.out.mono ?_
          rintro e w7 ⟨rfl, k7, hb7, _⟩
          have hz7 := hb7.size
          have HB7 : Hid (Below w.heap.size w w7) := HB6.out.trans (hb7.mono (by omega))
          have KB7 : Hid (Lib.IsBuilder 86 5 w1.heap.size w1.heap.size (Lib.byteCells (hd ++ encFs (fs.take (k + 1)))) w7) := by
            show Lib.IsBuilder _ _ _ _ _ _
            rw [HSN.out, ← List.append_assoc, ← List.append_assoc]; exact k7
          clear k7 hb7
          go_wp2_with fail
          go_roundw
          case rel => exact ⟨k + 1, by omega, by go_num, KB7.out, HB7.out, by omega⟩
          case measure => simp [intOf]; omega
        · have hlz : ¬ (k : Int) < (n : Int) := by omega
          have HST := Lib.hid (Tryd.Builder_String_any w1.heap.size w1.heap.size (hd ++ encFs (fs.take k)) wr hKB.out (by omega))
          rw [List.take_of_length_le (by rw [HL.out]; omega)] at HST
          go_wp2_with fail
          refine HST.out.mono ?_
          rintro e w8 ⟨rfl, hb8⟩
          have HB8 := Lib.hid (hBel.out.trans (hb8.mono (by omega))); clear hb8
          go_wp2_with fail
          go_ret2
          exact HR.out _ HV.out _ _ (by rw [HEO.out]; rfl) HB8.out
    | false =>
      obtain rfl : fn = 0 := HFN0.out rfl
      go_wp2_with fail
      refine HN1.out.mono ?_
      rintro e w2 ⟨rfl, k2, hb2, _⟩
      rw [List.nil_append] at k2
      have hz2 : w1.heap.size + 1 ≤ w2.heap.size := by have := hb2.size; simpa using this
      have hb12 : Below w1.heap.size w1 w2 := ((Below.refl _ w1).alloc (Nat.le_refl _) _).trans hb2
      have K2 := Lib.hid (K1.out.below hb12 (by omega))
      have HB2 : Hid (Below w.heap.size w w2) := HB1.out.trans (hb12.mono (by omega))
      have HN2 := Lib.hid (text_any w1.heap.size w1.heap.size (encN 0) msg w2 k2 (by omega) (by omega) (by have := encN_len 5 0 (by omega); omega))
      clear u0 u1 u2 k2 hb2 hb12 K1 HB1 HN1
      have u0 := K2.out.cell 0; have u1 := K2.out.cell 1; have u2 := K2.out.cell 2
      simp at u0 u1 u2
      go_wp2_with fail
      refine HN2.out.mono ?_
      rintro e w3 ⟨rfl, k3, hb3, _⟩
      have hz3 := hb3.size
      have K3 := Lib.hid (K2.out.below hb3 (by omega))
      have HB3 : Hid (Below w.heap.size w w3) := HB2.out.trans (hb3.mono (by omega))
      have hl3 : (encN 0 ++ encT (toL msg)).length ≤ 70000 := by
        have h1 := encN_len 5 0 (by omega)
        have h2 := encT_len (toL msg) (by rw [← size_toL]; omega)
        rw [List.length_append]; omega
      have HN3 := Lib.hid (number_any w1.heap.size w1.heap.size (encN 0 ++ encT (toL msg)) n w3 k3 (by omega) (by omega) (by omega))
      clear u0 u1 u2 k3 hb3 K2 HB2 HN2
      have u0 := K3.out.cell 0; have u1 := K3.out.cell 1; have u2 := K3.out.cell 2
      simp at u0 u1 u2
      go_wp2_with fail
      refine HN3.out.mono ?_
      rintro e w4 ⟨rfl, k4, hb4, _⟩
      have hz4 := hb4.size
      have K4 := Lib.hid (K3.out.below hb4 (by omega))
      have HB4 : Hid (Below w.heap.size w w4) := HB3.out.trans (hb4.mono (by omega))
      have KB4 := Lib.hid k4
      have hl4 : (encN 0 ++ encT (toL msg) ++ encN n).length ≤ 80000 := by
        have h1 := encN_len 5 n (by omega)
        rw [List.length_append]; omega
      clear u0 u1 u2 k4 hb4 K3 HB3 HN3
      obtain ⟨hd, hhd⟩ : ∃ hd, encN 0 ++ encT (toL msg) ++ encN n = hd := ⟨_, rfl⟩
      rw [hhd] at KB4 hl4 HEO
      have u0 := K4.out.cell 0; have u1 := K4.out.cell 1; have u2 := K4.out.cell 2
      simp at u0 u1 u2
      clear hhd
      go_wp2_with fail
      go_loopw [28] (fun q wr => ∃ k : Nat, k ≤ n ∧ q = .int .i64 k ∧ Hid (Lib.IsBuilder 86 5 w1.heap.size w1.heap.size (Lib.byteCells (hd ++ encFs (fs.take k))) wr) ∧ Hid (Below w.heap.size w wr) ∧ w1.heap.size + 1 ≤ wr.heap.size) (fun q _ => n - (intOf q).toNat)
      case atStart => exact ⟨0, Nat.zero_le _, rfl, by show Lib.IsBuilder _ _ _ _ _ _; simp [encFs]; exact KB4.out, HB4.out, by omega⟩
      case round =>
        obtain ⟨k, hk, rfl, hKB, hBel, hwz⟩ := hrel
        by_cases hlt : k < n
        · obtain ⟨b, off, f, rfl, hb, hf, y0, y1⟩ := (H0.out.below hBel.out hB).fl hlt
          have hlz : (k : Int) < (n : Int) := by omega
          have hft := HFL.out f (List.mem_of_getElem? hf)
          have HSN := Lib.hid (encFs_snoc hf)
          have hln : (encFs (fs.take k)).length ≤ 1310840 := by
            have h1 := encFs_len (fs := fs.take k) (fun g hg => HFL.out g (List.mem_of_mem_take hg))
            rw [List.length_take] at h1
            have h2 : min k fs.length ≤ 10 := by omega
            exact Nat.le_trans h1 (Nat.mul_le_mul_right _ h2)
          obtain ⟨W5, hW5⟩ : ∃ W5, wr.alloc (.cells #[.string f.1, .string f.2] 51) = W5 := ⟨_, rfl⟩
          have HB5 : Hid (Below w.heap.size w W5) := by rw [← hW5]; exact hBel.out.alloc hBel.out.size _
          have KF : Hid (Bk W5 wr.heap.size 51 #[.string f.1, .string f.2]) := by rw [← hW5]; exact Bk.new wr _ _
          have k5 : Lib.IsBuilder 86 5 w1.heap.size w1.heap.size (Lib.byteCells (hd ++ encFs (fs.take k))) W5 := by rw [← hW5]; exact isBuilder_alloc hKB.out _
          have hz5 : W5.heap.size = wr.heap.size + 1 := by rw [← hW5]; simp
          have HN5 := Lib.hid (text_any w1.heap.size w1.heap.size (hd ++ encFs (fs.take k)) f.1 W5 k5 (by omega) (by omega) (by rw [List.length_append]; omega))
          have x0 := KF.out.cell 0; simp at x0
          have HF := Lib.hid hf
          clear k5 hf u0 u1 u2
          go_wp2_with fail
          refine HN5.out.mono ?_
          rintro e w6 ⟨rfl, k6, hb6, hk6⟩
          have hz6 := hb6.size
          have KF6 := Lib.hid (KF.out.kc hk6 (by decide) (by decide))
          have HB6 : Hid (Below w.heap.size w w6) := HB5.out.trans (hb6.mono (by omega))
          have hl6 : (encT (toL f.1)).length ≤ 65542 := encT_len _ (by rw [← size_toL]; omega)
          have HN6 := Lib.hid (text_any w1.heap.size w1.heap.size (hd ++ encFs (fs.take k) ++ encT (toL f.1)) f.2 w6 k6 (by omega) (by omega) (by rw [List.length_append, List.length_append]; omega))
          clear x0 k6 hb6 hk6 KF HB5 HN5
          have x1 := KF6.out.cell 1; simp at x1
          go_wp2_with fail
          refine HN6.out.mono ?_
          rintro e w7 ⟨rfl, k7, hb7, _⟩
          have hz7 := hb7.size
          have HB7 : Hid (Below w.heap.size w w7) := HB6.out.trans (hb7.mono (by omega))
          have KB7 : Hid (Lib.IsBuilder 86 5 w1.heap.size w1.heap.size (Lib.byteCells (hd ++ encFs (fs.take (k + 1)))) w7) := by
            show Lib.IsBuilder _ _ _ _ _ _
            rw [HSN.out, ← List.append_assoc, ← List.append_assoc]; exact k7
          clear k7 hb7
          go_wp2_with fail
          go_roundw
          case rel => exact ⟨k + 1, by omega, by go_num, KB7.out, HB7.out, by omega⟩
          case measure => simp [intOf]; omega
        · have hlz : ¬ (k : Int) < (n : Int) := by omega
          have HST := Lib.hid (Tryd.Builder_String_any w1.heap.size w1.heap.size (hd ++ encFs (fs.take k)) wr hKB.out (by omega))
          rw [List.take_of_length_le (by rw [HL.out]; omega)] at HST
          go_wp2_with fail
          refine HST.out.mono ?_
          rintro e w8 ⟨rfl, hb8⟩
          have HB8 := Lib.hid (hBel.out.trans (hb8.mono (by omega))); clear hb8
          go_wp2_with fail
          go_ret2
          exact HR.out _ HV.out _ _ (by rw [HEO.out]; rfl) HB8.out
  · have HV : Hid (encOR fd msg fs = ([], chkO fd msg fs)) := by show _ = _; unfold encOR; rw [if_neg hc]
    have hcb : (chkO fd msg fs != 0) = true := by rw [bne_iff_ne]; exact hc
    clear hc
    go_wp2_with fail
    go_ret2
    exact HR.out _ HV.out _ _ rfl HB1.out
end Go.Proofs.YtiphbincnnppdaaDoor

namespace Go.Proofs.YtiphbincnnppdaaDoor
open Go.RowKit

def RetI (r : Nat × Nat × Int) (w : World) (e : Ending) (w' : World) : Prop := e = .returned (.tuple #[.int .i64 r.1, .int .i64 r.2.1, .int .i64 r.2.2]) ∧ w = w'
theorem drop_byte {s : ByteArray} {k : Nat} (h : k < s.size) : (toL s).drop k = s[k] :: (toL s).drop (k + 1) := by
  rw [List.drop_eq_getElem_cons (by rw [← size_toL]; exact h)]; rfl

set_option maxRecDepth 100000 in
set_option maxHeartbeats 2000000 in
theorem getInt_any (s : ByteArray) (w : World) : Calls Tryd.prog 69 #[.string s] w (RetI (getI (toL s)) w) := by
  have HR : Hid (∀ r, getI (toL s) = r → ∀ e w', RetI r w e w' → RetI (getI (toL s)) w e w') := fun r h e w' hh => by rw [h]; exact hh
  have H0 : Hid (getI (toL s) = gi 6 0 0 1 ((toL s).drop 0)) := rfl
  go_enter Tryd.func69, Tryd.ntmps69
  go_wp2
  go_loop [5, 6, 9] (fun n u i => ∃ k a b : Nat, k ≤ 6 ∧ i = .int .i64 k ∧ n = .int .i64 a ∧ u = .int .i64 b ∧ 1 ≤ b ∧ b ≤ 128 ^ 6 ∧ Hid (b = 128 ^ k) ∧ a < b ∧ Hid (getI (toL s) = gi (6 - k) k a b ((toL s).drop k))) (fun _ _ i => 6 - (intOf i).toNat)
  case atStart => exact ⟨0, 0, 1, by omega, rfl, rfl, rfl, by omega, by omega, rfl, by omega, H0.out⟩
  case round =>
    obtain ⟨k, a, b, hk, rfl, rfl, rfl, hb1, hb2, hb, hab, hg⟩ := hrel
    by_cases hlt : k < 6
    · have hf : Hid (6 - k = 5 - k + 1) := by show _ = _; omega
      by_cases hsz : k < s.size
      · have hsz' : ¬ (s.size : Int) ≤ (k : Int) := by omega
        have hbn : Hid (128 * b = 128 ^ (k + 1)) := by show _ = _; rw [hb.out, Nat.pow_succ, Nat.mul_comm]
        have hbp : 128 * b ≤ 128 ^ 6 := by rw [hbn.out]; exact Nat.pow_le_pow_right (by omega) (by omega)
        have hst : Hid (getI (toL s) = if s[k].toNat < 128 then (if (s[k].toNat = 0 ∧ 0 < k) ∨ 1099511627776 < a + s[k].toNat * b then (0, 0, 13) else (a + s[k].toNat * b, k + 1, 0)) else gi (5 - k) (k + 1) (a + (s[k].toNat - 128) * b) (b * 128) ((toL s).drop (k + 1))) := by
          show _ = _
          rw [hg.out, hf.out, drop_byte hsz, gi]
        have hd : s[k].toNat < 256 := s[k].toNat_lt
        generalize hdd : s[k].toNat = d at *
        have hdi : (s[k].toNat : Int) = (d : Int) := by rw [hdd]
        clear hdd
        by_cases h128 : d < 128
        · obtain ⟨p, hp⟩ : ∃ p, d * b = p := ⟨_, rfl⟩
          have hpb : p ≤ 128 * b := by rw [← hp]; exact Nat.mul_le_mul_right _ (by omega)
          have hpi : (d : Int) * (b : Int) = (p : Int) := by rw [← hp]; simp
          have h128i : ¬ (128 : Int) ≤ (d : Int) := by omega
          rw [hp, if_pos h128] at hst
          clear hp
          by_cases hmx : 1099511627776 < a + p
          · have hmxi : (1099511627776 : Int) < (a : Int) + (p : Int) := by omega
            have hfin : Hid (getI (toL s) = (0, 0, 13)) := by show _ = _; rw [hst.out, if_pos (.inr hmx)]
            clear hst hg
            by_cases hd0 : d = 0
            · have hd0i : ((d : Int) == 0) = true := by rw [beq_iff_eq]; omega
              clear hd0
              by_cases hk0 : (0 : Int) < (k : Int)
              all_goals
                go_wp2
                go_ret3
                exact HR.out _ hfin.out _ _ ⟨rfl, rfl⟩
            · have hd0i : ((d : Int) == 0) = false := by rw [beq_eq_false_iff_ne]; omega
              clear hd0
              go_wp2
              go_ret3
              exact HR.out _ hfin.out _ _ ⟨rfl, rfl⟩
          · have hmxi : ¬ (1099511627776 : Int) < (a : Int) + (p : Int) := by omega
            by_cases hd0 : d = 0
            · have hd0i : ((d : Int) == 0) = true := by rw [beq_iff_eq]; omega
              by_cases hk0 : 0 < k
              · have hk0i : (0 : Int) < (k : Int) := by omega
                have hfin : Hid (getI (toL s) = (0, 0, 13)) := by show _ = _; rw [hst.out, if_pos (.inl ⟨hd0, hk0⟩)]
                clear hst hg hd0
                go_wp2
                go_ret3
                exact HR.out _ hfin.out _ _ ⟨rfl, rfl⟩
              · have hk0i : ¬ (0 : Int) < (k : Int) := by omega
                have hfin : Hid (getI (toL s) = (a + p, k + 1, 0)) := by show _ = _; rw [hst.out, if_neg (by omega)]
                clear hst hg hd0
                go_wp2
                go_ret3
                exact HR.out _ hfin.out _ _ ⟨rfl, rfl⟩
            · have hd0i : ((d : Int) == 0) = false := by rw [beq_eq_false_iff_ne]; omega
              have hfin : Hid (getI (toL s) = (a + p, k + 1, 0)) := by show _ = _; rw [hst.out, if_neg (by omega)]
              clear hst hg hd0
              go_wp2
              go_ret3
              exact HR.out _ hfin.out _ _ ⟨rfl, rfl⟩
        · obtain ⟨p, hp⟩ : ∃ p, (d - 128) * b = p := ⟨_, rfl⟩
          have hpb : p + b ≤ 128 * b := by
            have : (d - 128 + 1) * b ≤ 128 * b := Nat.mul_le_mul_right _ (by omega)
            rw [Nat.add_mul, hp] at this; omega
          have hpi : ((d : Int) - 128) * (b : Int) = (p : Int) := by
            rw [← hp, Int.natCast_mul, Int.ofNat_sub (by omega)]; rfl
          have h128i : (128 : Int) ≤ (d : Int) := by omega
          rw [hp, if_neg h128] at hst
          clear hp
          go_wp2
          go_round
          case rel => exact ⟨k + 1, a + p, b * 128, by omega, by go_num, by go_num, by go_num, by omega, by omega, by show _ = _; rw [Nat.mul_comm]; exact hbn.out, by omega, by show _ = _; rw [hst.out, show 6 - (k + 1) = 5 - k by omega]⟩
          case measure => simp [intOf]; omega
      · have hsz' : (s.size : Int) ≤ (k : Int) := by omega
        have hfin : Hid (getI (toL s) = (0, 0, 12)) := by
          show _ = _
          rw [hg.out, hf.out, List.drop_of_length_le (by rw [← size_toL]; omega), gi]
        clear hg
        go_wp2
        go_ret3
        exact HR.out _ hfin.out _ _ ⟨rfl, rfl⟩
    · have hfin : Hid (getI (toL s) = (0, 0, 13)) := by
        show _ = _
        rw [hg.out, show 6 - k = 0 by omega, gi]
      clear hg
      go_wp2
      go_ret3
      exact HR.out _ hfin.out _ _ ⟨rfl, rfl⟩
def RetT (r : Bytes × Nat × Int) (w : World) (e : Ending) (w' : World) : Prop := e = .returned (.tuple #[.string (ofL r.1), .int .i64 r.2.1, .int .i64 r.2.2]) ∧ w = w'
theorem extract_ofL (s : ByteArray) (a n : Nat) : s.extract a (a + n) = ofL (((toL s).drop a).take n) := by
  apply ByteArray.ext
  apply Array.toList_inj.1
  show (s.extract a (a + n)).data.toList = ((toL s).drop a).take n
  rw [extract_list, Nat.add_sub_cancel_left]; rfl

set_option maxRecDepth 100000 in
set_option maxHeartbeats 2000000 in
theorem getText_any (s : ByteArray) (hs : s.size ≤ maxLen) (w : World) : Calls Tryd.prog 70 #[.string s] w (RetT (getT (toL s)) w) := by
  unfold maxLen at hs
  have HR : Hid (∀ r, getT (toL s) = r → ∀ e w', RetT r w e w' → RetT (getT (toL s)) w e w') := fun r h e w' hh => by rw [h]; exact hh
  have HD : Hid (getT (toL s) = if (getI (toL s)).2.2 ≠ 0 then ([], 0, (getI (toL s)).2.2) else if 65536 < (getI (toL s)).1 then ([], 0, 13) else if (toL s).length < (getI (toL s)).2.1 + (getI (toL s)).1 then ([], 0, 12) else (((toL s).drop (getI (toL s)).2.1).take (getI (toL s)).1, (getI (toL s)).2.1 + (getI (toL s)).1, 0)) := rfl
  rw [← size_toL] at HD
  have hle := getI_le (toL s)
  rw [← size_toL] at hle
  have hmx := getI_max (toL s)
  go_enter Tryd.func70, Tryd.ntmps70
  go_wp2_with fail
  refine (getInt_any s _).mono ?_
  generalize getI (toL s) = r at *
  obtain ⟨n, k, e⟩ := r
  rintro e' w' ⟨rfl, rfl⟩
  simp only at hle hmx HD ⊢
  by_cases he : e = 0
  · subst he
    by_cases hn : 65536 < n
    · have hni : (65536 : Int) < (n : Int) := by omega
      have hfin : Hid (getT (toL s) = ([], 0, 13)) := by show _ = _; rw [HD.out, if_neg (by simp), if_pos hn]
      clear HD
      go_wp2
      go_ret3
      exact HR.out _ hfin.out _ _ ⟨rfl, rfl⟩
    · have hni : ¬ (65536 : Int) < (n : Int) := by omega
      by_cases hl : s.size < k + n
      · have hli : (s.size : Int) - (k : Int) < (n : Int) := by omega
        have hfin : Hid (getT (toL s) = ([], 0, 12)) := by show _ = _; rw [HD.out, if_neg (by simp), if_neg hn, if_pos hl]
        clear HD
        go_wp2
        go_ret3
        exact HR.out _ hfin.out _ _ ⟨rfl, rfl⟩
      · have hli : ¬ (s.size : Int) - (k : Int) < (n : Int) := by omega
        have hfin : Hid (getT (toL s) = (((toL s).drop k).take n, k + n, 0)) := by show _ = _; rw [HD.out, if_neg (by simp), if_neg hn, if_neg hl]
        have HX := Lib.hid (extract_ofL s k n)
        clear HD
        go_wp2
        go_ret3
        exact HR.out _ hfin.out _ _ ⟨by rw [← HX.out]; rfl, rfl⟩
  · have hne : (e != 0) = true := by rw [bne_iff_ne]; exact he
    have hfin : Hid (getT (toL s) = ([], 0, e)) := by show _ = _; rw [HD.out, if_pos he]
    clear HD he
    go_wp2
    go_ret3
    exact HR.out _ hfin.out _ _ ⟨rfl, rfl⟩
end Go.Proofs.YtiphbincnnppdaaDoor
