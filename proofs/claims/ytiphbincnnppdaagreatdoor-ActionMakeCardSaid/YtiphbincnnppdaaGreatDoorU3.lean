/-
  Lemmas: The arguments that come in: files, outputs, targets, graphs, actions, read off the form's own reading. What the rows share: an argument that reads as before, the last step, the witness's world. action.fileName: whether a string is the name of a file of a build. append onto a slice that is the call's own, or empty without capacity. A slice from which elements are taken in front and to which elements are appended: it owns its row from its own offset on. Over any program. Maps with strings as keys and whatever values as elements (structs with slices, slices that are appended to): what a key has, as a plain function. Over any program. As in Range2; moreover the iterator knows where memory ends when it is entered (hz), and what a round keeps (Kp) has to be shown of the loop's own record only where that record lies. For graph.reached's walk: laws inside a fence (append onto a queue, a store into a map), and what the iterator and its rounds leave alone. The search with numbers of steps, as graph.reached makes it: what it has handed over (pre) and its queue (todo). Plain Lean; no program in sight. A scope (a function that holds a label) inside a fence, where no goto is taken. Over any program. graph.index: targets by their labels; the first one with a label counts.
-/
import Derived.ProofKit
import Derived.OpenShut
import Derived.Deep.Slices
import Derived.Lib.SmallJoins
import Derived.Test.YtiphbincnnppdaaGreatDoorCards
import Derived.Test.YtiphbincnnppdaaGreatDoorTie
import Derived.Deep.DeepHandedRow
import Derived.Lib.LaidTab
import Derived.Lib.LaidIn
import Derived.ArgAppend
import Derived.Maps.RangeWalk
import Derived.OwnWalkIn
import Derived.Scope
import Derived.ControlIn
import Derived.Test.YtiphbincnnppdaaGreatDoorProg
import Derived.Test.YtiphbincnnppdaaGreatDoorU2

namespace Go.Proofs.YtiphbincnnppdaaGreatDoor
open Go.ChangeShapes Go.WideShapes Go.ChangeAt Go.RowKit Go.Joins Go.Deep

theorem cellsStr : Tryz.prog.cellsOf 9 = 1 := by kernel_rfl
theorem cellsFl : Tryz.prog.cellsOf 62 = 2 := by kernel_rfl
theorem cellsOut : Tryz.prog.cellsOf 50 = 3 := by kernel_rfl
theorem cellsTg : Tryz.prog.cellsOf 60 = 4 := by kernel_rfl
theorem cellsInt : Tryz.prog.cellsOf 3 = 1 := by kernel_rfl
theorem cellsBool : Tryz.prog.cellsOf 4 = 1 := by kernel_rfl
theorem cellsStrs : Tryz.prog.cellsOf 58 = 1 := by kernel_rfl
theorem cellsFls : Tryz.prog.cellsOf 25 = 1 := by kernel_rfl
theorem cellsTgs : Tryz.prog.cellsOf 22 = 1 := by kernel_rfl
theorem cellsGr : Tryz.prog.cellsOf 24 = 1 := by kernel_rfl

theorem list_of {α : Type} {p : Nat → α → Prop} : ∀ (n : Nat), (∀ i, i < n → ∃ x, p i x) → ∃ xs : List α, xs.length = n ∧ ∀ i x, xs[i]? = some x → p i x
  | 0, _ => ⟨[], rfl, fun i x h => by simp at h⟩
  | n + 1, h => by
    obtain ⟨xs, hl, hp⟩ := list_of n (fun i hi => h i (by omega))
    obtain ⟨y, hy⟩ := h n (by omega)
    refine ⟨xs ++ [y], by simp [hl], fun i x hx => ?_⟩
    rcases Nat.lt_or_ge i xs.length with hi | hi
    · rw [List.getElem?_append_left hi] at hx; exact hp i x hx
    · rw [List.getElem?_append_right hi] at hx
      have : i - xs.length = 0 := by
        rcases Nat.eq_zero_or_pos (i - xs.length) with h0 | h0
        · exact h0
        · rw [List.getElem?_eq_none (by simp; omega)] at hx; cases hx
      rw [this] at hx
      simp at hx
      subst hx
      have : i = n := by omega
      rw [this]; exact hy

theorem len2 {α : Type} {l : List α} (h : l.length = 2) : ∃ a b, l = [a, b] := by
  match l, h with
  | [a, b], _ => exact ⟨a, b, rfl⟩
theorem len3 {α : Type} {l : List α} (h : l.length = 3) : ∃ a b c, l = [a, b, c] := by
  match l, h with
  | [a, b, c], _ => exact ⟨a, b, c, rfl⟩
theorem len1 {α : Type} {l : List α} (h : l.length = 1) : ∃ a, l = [a] := by
  match l, h with
  | [a], _ => exact ⟨a, rfl⟩
theorem len4 {α : Type} {l : List α} (h : l.length = 4) : ∃ a b c d, l = [a, b, c, d] := by
  match l, h with
  | [a, b, c, d], _ => exact ⟨a, b, c, d, rfl⟩
theorem flat_strs (l : List ByteArray) : flat (fun s => [Value.string s]) l = strs l := by
  induction l with
  | nil => rfl
  | cons a l ih => simp only [flat, strs, List.flatMap_cons, List.map_cons] at ih ⊢; rw [ih]; rfl

section
variable {H : Type} {enc : TypeId × Value → H} {P : Program} {w : World} {base : Nat} {spare : Nat → Bool} {held : Bool} {fuel : Nat} {cs : List Value} {x : DataW H × List MemPlace}
/-- A slice of such things. -/
theorem trod_slP {α : Type} {t e : TypeId} {s : Nat} {encA : α → List Value} {Q : α → Prop} (ht : P.underlying t = some (.slice e)) (hC : P.cellsOf e = s) (h0 : 0 < s) (hl : ∀ a, (encA a).length = s)
    (hel : ∀ (fuel : Nat) (cs : List Value) (x : DataW H × List MemPlace), DataW.trod enc P w base spare held fuel e cs = some x → ∃ a, cs = encA a ∧ Q a)
    (h : DataW.trod enc P w base spare held fuel t cs = some x) : ∃ A n c xs, cs = [.slice A n c] ∧ Sl w w.heap.size s A n (flat encA xs) ∧ n ≤ c ∧ c ≤ maxLen ∧ ∀ a ∈ xs, Q a := by
  rcases open_slice ht h with ⟨rfl, _⟩ | ⟨a, len, cap, m, n, D, Pl, rfl, _, hlc, hcm, hm, _, hi⟩
  · exact ⟨none, 0, 0, [], rfl, Sl.nil _ _ _ _, Nat.le_refl _, Nat.zero_le _, fun a ha => by cases ha⟩
  · have hlm : len ≤ m := by rw [hm]; split <;> omega
    obtain ⟨xs, hxl, hxs⟩ := list_of (p := fun i (y : α) => w.cells? base (a.add (i * s)) s = some (encA y) ∧ Q y) len (fun i hi' => by
      obtain ⟨cs', hc, ht'⟩ := hi i (by omega)
      obtain ⟨y, rfl, hq⟩ := hel _ _ _ ht'
      rw [hC] at hc
      exact ⟨y, hc, hq⟩)
    refine ⟨some a, len, cap, xs, rfl, ⟨by rw [flat_len hl, hxl], fun hn => ?_⟩, hlc, hcm, fun y hy => ?_⟩
    · have hcell : ∀ (k j : Nat) (y : α), xs[k]? = some y → j < s → w.cell? ((a.add (k * s)).add j) = (encA y)[j]? := fun k j y hy hj => (World.cells?_some (hxs k y hy).1).2.2 j hj
      have hx0 : xs[0]? = some (xs[0]'(by omega)) := List.getElem?_eq_getElem (by omega)
      have hsome : ∃ v, w.cell? a = some v := by
        have := hcell 0 0 _ hx0 h0
        have hg : (encA (xs[0]'(by omega)))[0]? = some ((encA (xs[0]'(by omega)))[0]'(by rw [hl]; exact h0)) := List.getElem?_eq_getElem (by rw [hl]; exact h0)
        rw [hg] at this
        simp [Addr.add] at this
        exact ⟨_, this⟩
      obtain ⟨v, hv⟩ := hsome
      have hsp := World.cell?_spot hv
      obtain ⟨b, off, sp⟩ := a
      simp only at hsp
      subst hsp
      refine ⟨b, off, rfl, ?_, fun j u hu => ?_⟩
      · unfold World.cell? at hv
        simp only at hv
        rcases Nat.lt_or_ge b w.heap.size with hb | hb
        · exact hb
        · rw [Array.getElem?_eq_none hb] at hv; cases hv
      · have hj : j < xs.length * s := by
          have := (List.getElem?_eq_some_iff.1 hu).1
          rwa [flat_len hl] at this
        have hk : j / s < xs.length := Nat.div_lt_of_lt_mul (by rwa [Nat.mul_comm] at hj)
        have hr : j % s < s := Nat.mod_lt _ h0
        have hy : xs[j / s]? = some (xs[j / s]'hk) := List.getElem?_eq_getElem hk
        have e : j / s * s + j % s = j := by rw [Nat.mul_comm]; exact Nat.div_add_mod j s
        have h1 := flat_get hl xs (j / s) (j % s) _ hy hr
        rw [e, hu] at h1
        have h2 := hcell (j / s) (j % s) _ hy hr
        rw [← h1, Go.Deep.add_add, e] at h2
        rw [← h2]
        congr 1
        unfold Addr.add
        split
        · rename_i hz; subst hz; rfl
        · rfl
    · obtain ⟨i, hi', rfl⟩ := List.getElem_of_mem hy
      exact (hxs i _ (List.getElem?_eq_getElem hi')).2
theorem trod_strsP {t s : TypeId} (ht : P.underlying t = some (.slice s)) (hs : P.underlying s = some .string) (hc : P.cellsOf s = 1) (h : DataW.trod enc P w base spare held fuel t cs = some x) :
    ∃ A n c l, cs = [.slice A n c] ∧ Sl w w.heap.size 1 A n (strs l) ∧ n ≤ c ∧ c ≤ maxLen ∧ ∀ a ∈ l, a.size ≤ maxLen := by
  obtain ⟨A, n, c, l, h1, h2, h3, h4, h5⟩ := trod_slP (encA := fun s : ByteArray => [Value.string s]) (Q := fun a => a.size ≤ maxLen) ht hc (by omega) (fun _ => rfl) (fun _ _ _ hh => by
    obtain ⟨a, ha, _, hz⟩ := DataW.trod_string hs hh
    exact ⟨a, ha, hz⟩) h
  rw [flat_strs] at h2
  exact ⟨A, n, c, l, h1, h2, h3, h4, h5⟩
theorem trod_flP {t s : TypeId} {f0 f1 : Field} (ht : P.underlying t = some (.struct #[f0, f1])) (o0 : f0.offset = 0) (o1 : f1.offset = 1) (t0 : f0.type = s) (t1 : f1.type = s) (hs : P.underlying s = some .string)
    (hC : P.cellsOf t = 2) (hcs : P.cellsOf s = 1) (h : DataW.trod enc P w base spare held fuel t cs = some x) : ∃ f : Fl, cs = flC f ∧ f.1.size ≤ maxLen ∧ f.2.size ≤ maxLen := by
  obtain ⟨xs, m, _, _, hlen, hxl, hf⟩ := DataW.trod_struct ht h
  rw [hC] at hlen
  obtain ⟨c0, c1, rfl⟩ := len2 hlen
  obtain ⟨y0, y1, rfl⟩ := len2 hxl
  have h0 := hf 0 f0 rfl
  have h1 := hf 1 f1 rfl
  rw [o0, t0, hcs] at h0
  rw [o1, t1, hcs] at h1
  simp at h0 h1
  obtain ⟨a, ha, _, hz⟩ := DataW.trod_string hs h0
  obtain ⟨b, hb, _, hz2⟩ := DataW.trod_string hs h1
  simp at ha hb
  exact ⟨(a, b), by rw [ha, hb]; rfl, hz, hz2⟩
theorem trod_tgP {t s i l : TypeId} {f0 f1 f2 f3 : Field} (ht : P.underlying t = some (.struct #[f0, f1, f2, f3])) (o0 : f0.offset = 0) (o1 : f1.offset = 1) (o2 : f2.offset = 2) (o3 : f3.offset = 3)
    (t0 : f0.type = s) (t1 : f1.type = i) (t2 : f2.type = l) (t3 : f3.type = l) (hs : P.underlying s = some .string) (hi : P.underlying i = some (.int .i64)) (hl : P.underlying l = some (.slice s))
    (hC : P.cellsOf t = 4) (hcs : P.cellsOf s = 1) (hci : P.cellsOf i = 1) (hcl : P.cellsOf l = 1) (h : DataW.trod enc P w base spare held fuel t cs = some x) : ∃ g : Tg, cs = tgC g ∧ TgOk w w.heap.size g := by
  obtain ⟨xs, m, _, _, hlen, hxl, hf⟩ := DataW.trod_struct ht h
  rw [hC] at hlen
  obtain ⟨c0, c1, c2, c3, rfl⟩ := len4 hlen
  obtain ⟨y0, y1, y2, y3, rfl⟩ := len4 hxl
  have h0 := hf 0 f0 rfl
  have h1 := hf 1 f1 rfl
  have h2 := hf 2 f2 rfl
  have h3 := hf 3 f3 rfl
  rw [o0, t0, hcs] at h0
  rw [o1, t1, hci] at h1
  rw [o2, t2, hcl] at h2
  rw [o3, t3, hcl] at h3
  simp at h0 h1 h2 h3
  obtain ⟨a, ha, _, hz⟩ := DataW.trod_string hs h0
  obtain ⟨k, hk, _⟩ := DataW.trod_int hi h1
  obtain ⟨A, n, c, dl, hd, d1, d2, d3, d4⟩ := trod_strsP hl hs hcs h2
  obtain ⟨A', n', c', vl, hv, v1, v2, v3, v4⟩ := trod_strsP hl hs hcs h3
  simp at ha hk hd hv
  exact ⟨⟨a, k, A, n, c, dl, A', n', c', vl⟩, by rw [ha, hk, hd, hv]; rfl, ⟨d1, d2, d3, v1, v2, v3, hz, d4, v4⟩⟩
theorem trod_outP {t b s l e : TypeId} {f0 f1 f2 g0 g1 : Field} (ht : P.underlying t = some (.struct #[f0, f1, f2])) (o0 : f0.offset = 0) (o1 : f1.offset = 1) (o2 : f2.offset = 2) (t0 : f0.type = b) (t1 : f1.type = s) (t2 : f2.type = l)
    (hb : P.underlying b = some .bool) (hs : P.underlying s = some .string) (hl : P.underlying l = some (.slice e)) (he : P.underlying e = some (.struct #[g0, g1])) (p0 : g0.offset = 0) (p1 : g1.offset = 1) (q0 : g0.type = s) (q1 : g1.type = s)
    (hC : P.cellsOf t = 3) (hcb : P.cellsOf b = 1) (hcs : P.cellsOf s = 1) (hcl : P.cellsOf l = 1) (hce : P.cellsOf e = 2) (h : DataW.trod enc P w base spare held fuel t cs = some x) :
    ∃ fd msg A n c fs, cs = [.bool fd, .string msg, .slice A n c] ∧ msg.size ≤ maxLen ∧ Sl w w.heap.size 2 A n (flat flC fs) ∧ n ≤ c ∧ c ≤ maxLen ∧ ∀ f ∈ fs, f.1.size ≤ maxLen ∧ f.2.size ≤ maxLen := by
  obtain ⟨xs, m, _, _, hlen, hxl, hf⟩ := DataW.trod_struct ht h
  rw [hC] at hlen
  obtain ⟨c0, c1, c2, rfl⟩ := len3 hlen
  obtain ⟨y0, y1, y2, rfl⟩ := len3 hxl
  have h0 := hf 0 f0 rfl
  have h1 := hf 1 f1 rfl
  have h2 := hf 2 f2 rfl
  rw [o0, t0, hcb] at h0
  rw [o1, t1, hcs] at h1
  rw [o2, t2, hcl] at h2
  simp at h0 h1 h2
  obtain ⟨a, ha, _⟩ := DataW.trod_bool hb h0
  obtain ⟨b, hb', _, hz⟩ := DataW.trod_string hs h1
  obtain ⟨A', n', c', us, he', k1, k2, k3, k4⟩ := trod_slP (encA := flC) (Q := fun f => f.1.size ≤ maxLen ∧ f.2.size ≤ maxLen) hl hce (by omega) flC_len (fun _ _ _ hh => trod_flP he p0 p1 q0 q1 hs hce hcs hh) h2
  simp at ha hb' he'
  exact ⟨a, b, A', n', c', us, by rw [ha, hb', he'], hz, k1, k2, k3, k4⟩
theorem trod_grP {t l e s i m : TypeId} {f0 g0 g1 g2 g3 : Field} (ht : P.underlying t = some (.struct #[f0])) (o0 : f0.offset = 0) (t0 : f0.type = l) (hl : P.underlying l = some (.slice e)) (he : P.underlying e = some (.struct #[g0, g1, g2, g3]))
    (p0 : g0.offset = 0) (p1 : g1.offset = 1) (p2 : g2.offset = 2) (p3 : g3.offset = 3) (q0 : g0.type = s) (q1 : g1.type = i) (q2 : g2.type = m) (q3 : g3.type = m) (hs : P.underlying s = some .string) (hi : P.underlying i = some (.int .i64)) (hm : P.underlying m = some (.slice s))
    (hC : P.cellsOf t = 1) (hcl : P.cellsOf l = 1) (hce : P.cellsOf e = 4) (hcs : P.cellsOf s = 1) (hci : P.cellsOf i = 1) (hcm : P.cellsOf m = 1) (h : DataW.trod enc P w base spare held fuel t cs = some x) :
    ∃ A n c ts, cs = [.slice A n c] ∧ Sl w w.heap.size 4 A n (flat tgC ts) ∧ n ≤ c ∧ c ≤ maxLen ∧ ∀ t ∈ ts, TgOk w w.heap.size t := by
  obtain ⟨xs, _, _, _, hlen, hxl, hf⟩ := DataW.trod_struct ht h
  rw [hC] at hlen
  obtain ⟨c0, rfl⟩ := len1 hlen
  obtain ⟨y0, rfl⟩ := len1 hxl
  have h0 := hf 0 f0 rfl
  rw [o0, t0, hcl] at h0
  simp at h0
  exact trod_slP (encA := tgC) (Q := fun t => TgOk w w.heap.size t) hl hce (by omega) tgC_len (fun _ _ _ hh => trod_tgP he p0 p1 p2 p3 q0 q1 q2 q3 hs hi hm hce hcs hci hcm hh) h0
end

section
variable {H : Type} {enc : TypeId × Value → H} {W : World} {base : Nat} {v : Value} {d : DataW H} {p : List MemPlace} {r : Reach} {b0 : Nat} {sp : Nat → Bool} {held : Bool}
set_option maxRecDepth 100000 in
theorem open_str (hv : Value.okWide Tryz.prog W r b0 9 v) (h : DataW.Trod enc Tryz.prog W base sp held 9 v d p) : ∃ s : ByteArray, v = .string s ∧ s.size ≤ maxLen := by
  obtain ⟨s, rfl⟩ := okWide_string Tryz.underlying9 hv
  obtain ⟨fuel, hf⟩ := h
  obtain ⟨s', he, _, hz⟩ := DataW.trod_string Tryz.underlying9 hf
  have e1 : [Value.string s] = [Value.string s'] := he
  simp at e1
  exact ⟨s, rfl, by rw [e1]; exact hz⟩
set_option maxRecDepth 100000 in
theorem open_int (hv : Value.okWide Tryz.prog W r b0 3 v) : ∃ z : Int, v = .int .i64 z := okWide_int Tryz.underlying3 hv
set_option maxRecDepth 100000 in
theorem open_files (hv : Value.okWide Tryz.prog W r b0 25 v) (h : DataW.Trod enc Tryz.prog W base sp held 25 v d p) : ∃ A n c fs, v = .slice A n c ∧ Sl W W.heap.size 2 A n (flat flC fs) ∧ n ≤ c ∧ c ≤ maxLen ∧ ∀ f ∈ fs, f.1.size ≤ maxLen ∧ f.2.size ≤ maxLen := by
  obtain ⟨A, n, c, rfl⟩ := okWide_slice Tryz.underlying25 hv
  obtain ⟨fuel, hf⟩ := h
  obtain ⟨A', n', c', us, he, h1, h2, h3, h4⟩ := trod_slP (encA := flC) (Q := fun f => f.1.size ≤ maxLen ∧ f.2.size ≤ maxLen) Tryz.underlying25 cellsFl (by omega) flC_len (fun _ _ _ hh => trod_flP Tryz.underlying62 rfl rfl rfl rfl Tryz.underlying9 cellsFl cellsStr hh) hf
  refine ⟨A', n', c', us, ?_, h1, h2, h3, h4⟩
  have : [Value.slice A n c] = [Value.slice A' n' c'] := he
  simpa using this
set_option maxRecDepth 100000 in
theorem open_out (hv : Value.okWide Tryz.prog W r b0 50 v) (h : DataW.Trod enc Tryz.prog W base sp held 50 v d p) : ∃ fd msg A n c fs, v = .agg #[.bool fd, .string msg, .slice A n c] ∧ msg.size ≤ maxLen ∧ Sl W W.heap.size 2 A n (flat flC fs) ∧ n ≤ c ∧ c ≤ maxLen ∧ ∀ f ∈ fs, f.1.size ≤ maxLen ∧ f.2.size ≤ maxLen := by
  obtain ⟨cs, rfl, hsz⟩ := okWide_struct Tryz.underlying50 hv
  obtain ⟨fuel, hf⟩ := h
  obtain ⟨fd, msg, A, n, c, fs, he, k⟩ := trod_outP Tryz.underlying50 rfl rfl rfl rfl rfl rfl Tryz.underlying4 Tryz.underlying9 Tryz.underlying25 Tryz.underlying62 rfl rfl rfl rfl cellsOut cellsBool cellsStr cellsFls cellsFl hf
  refine ⟨fd, msg, A, n, c, fs, ?_, k⟩
  have : cs.toList = [.bool fd, .string msg, .slice A n c] := he
  rw [show cs = #[.bool fd, .string msg, .slice A n c] by rw [← Array.toArray_toList (xs := cs), this]]
set_option maxRecDepth 100000 in
theorem open_graph (hv : Value.okWide Tryz.prog W r b0 24 v) (h : DataW.Trod enc Tryz.prog W base sp held 24 v d p) : ∃ A n c ts, v = .agg #[.slice A n c] ∧ Sl W W.heap.size 4 A n (flat tgC ts) ∧ n ≤ c ∧ c ≤ maxLen ∧ ∀ t ∈ ts, TgOk W W.heap.size t := by
  obtain ⟨cs, rfl, hsz⟩ := okWide_struct Tryz.underlying24 hv
  obtain ⟨fuel, hf⟩ := h
  obtain ⟨A, n, c, ts, he, k⟩ := trod_grP Tryz.underlying24 rfl rfl Tryz.underlying22 Tryz.underlying60 rfl rfl rfl rfl rfl rfl rfl rfl Tryz.underlying9 Tryz.underlying3 Tryz.underlying58 cellsGr cellsTgs cellsTg cellsStr cellsInt cellsStrs hf
  refine ⟨A, n, c, ts, ?_, k⟩
  have : cs.toList = [.slice A n c] := he
  rw [show cs = #[.slice A n c] by rw [← Array.toArray_toList (xs := cs), this]]
end
end Go.Proofs.YtiphbincnnppdaaGreatDoor

namespace Go.Proofs.YtiphbincnnppdaaGreatDoor
open Go.ChangeShapes Go.WideShapes Go.ChangeAt Go.RowKit Go.Joins Go.Deep

theorem own : ownKnob Tryz.prog.godebug = none := by kernel_rfl
theorem laidOut : laidOutB Tryz.prog = true := by kernel_rfl

section
variable {H : Type} {enc : TypeId × Value → H} {W : World} {v : Value} {d : DataW H} {p : List MemPlace} {sp : Nat → Bool}
/-- an argument reads as it did -/
theorem keep {W' : World} {t : TypeId} (hr : Tryz.prog.readableRec t = true) (hrow : t < Tryz.prog.types.size) (h : DataW.Trod enc Tryz.prog W 0 (fun _ => true) true t v d p) (hb : Below W.heap.size W W') (hlt : ∀ x ∈ p, x.block < W.heap.size) (hsp : ∀ x ∈ p, sp x.block = true) :
    DataW.Trod enc Tryz.prog W' 0 sp true t v d p :=
  WideElems.Trod_stays laidOut hr hrow h (fun x hx => hb.same (hlt x hx)) hsp
end

/-- The last step, where only 'Below' is known of the world behind the call: after the guide's lemma of that name. -/
theorem post_below {H : Type} {enc : TypeId × Value → H} {P : Program} {f : Func} {s : ChangeSpec} {apart fresh handsOn again : Bool} {W W' : World} {args : Array Value} {v : Value} {ds gs : List (DataW H)} {before pa pv : List MemPlace}
    (hW : DataW.Whole enc P f.params.toList s.vars apart W args.toList ds gs before)
    (hres : ∀ (b : Nat) (sp : Nat → Bool) (hd : Bool), DataW.TrodAll enc P W' b sp hd f.resultTypes.toList (v.resultList f.resultTypes.size) (s.fn H (ds ++ gs)).results [])
    (hargs : ∀ sp : Nat → Bool, (∀ p ∈ before, sp p.block = true) → DataW.TrodAll enc P W' 0 sp true f.params.toList args.toList (s.fn H (ds ++ gs)).args pa)
    (hvars : ∀ sp : Nat → Bool, (∀ p ∈ before, sp p.block = true) → DataW.TrodVars enc P W' sp s.vars (s.fn H (ds ++ gs)).vars pv)
    (hps : before = pa ++ pv) (hb : Below W.heap.size W W')
    (hok : ∀ (j : Nat) (t : TypeId) (r : Value), f.resultTypes[j]? = some t → (v.resultList f.resultTypes.size)[j]? = some r → Value.okWide P W' .any 0 t r) :
    s.post enc P f apart fresh handsOn again W args v W' := by
  have hlt : ∀ p ∈ before, p.block < W.heap.size := fun p hp => hW.lt p hp
  have hold : ∀ p ∈ before, (fun b => decide (b < W.heap.size)) p.block = true := fun p hp => by simpa using hlt p hp
  refine ⟨ds, gs, before, [], pa, pv, hW, hres _ _ _, hargs _ hold, hvars _ hold, World.keptBut_mono (fun p hp => ⟨hp, ?_⟩) (hb.frame (· ∈ before)), fun _ => ?_⟩
  · rw [hps, List.mem_append] at hp
    exact Or.inr hp
  · obtain ⟨_, _, _, _, _, hz, hn⟩ := hW
    refine ⟨hok, _, _, ([] ++ pa) ++ pv, ⟨[] ++ pa, pv, trodAll_append (hargs _ (fun _ _ => rfl)) (hres _ _ _), hvars _ (fun _ _ => rfl), rfl, ?_, ?_⟩, ?_⟩
    · intro b off hp
      have hin : MemPlace.cell b off ∈ before := by rw [hps]; simpa using hp
      rw [hb.frozen (hlt _ hin)]
      exact hz b off hin
    · intro ha
      have := hn ha
      rw [hps] at this
      simpa using this
    · intro p hp _
      rw [hps]
      simpa using hp

/-- The witness's world: the settled one, the two listed variables holding what their initialisers lay. -/
noncomputable def laidWorld (os : Os) : World :=
  let w0 := World.holding Tryz.prog os ⟨#[], #[], []⟩
  let put (h : Array Obj) (g : Nat) (cs : Array Value) : Array Obj := h.modify g fun
    | .cells _ t frozen => .cells cs t frozen
    | o => o
  let h1 := put w0.heap 1 (Go.Pinned.utf8FirstZ.map fun (z : Nat) => Value.int .u8 (z : Int)).toArray
  let h2 := put h1 2 (([128, 191, 160, 191, 128, 159, 144, 191, 128, 143].map fun (z : Int) => Value.int .u8 z) ++ List.replicate 22 (Value.int .u8 0)).toArray
  { w0 with heap := h2 }
set_option maxRecDepth 100000 in
theorem laid_met (os : Os) (args : Array Value) : laidMet Tryz.prog [("unicode/utf8.acceptRanges", Rows.laid_unicode_utf8_acceptRanges), ("unicode/utf8.first", Rows.laid_unicode_utf8_first)] ((laidWorld os).forCall (fun _ _ => 0) ⟨#[], args, []⟩).memory :=
  (LaidIn.of_run (l := [("unicode/utf8.acceptRanges", Rows.laid_unicode_utf8_acceptRanges), ("unicode/utf8.first", Rows.laid_unicode_utf8_first)]) [2, 1] 8 (by kernel_rfl) (by kernel_rfl) (by kernel_rfl) (by kernel_rfl)).met
end Go.Proofs.YtiphbincnnppdaaGreatDoor

namespace Go.Proofs.YtiphbincnnppdaaGreatDoor
open Go.RowKit Go.Shelf

def fwords : List Bytes := [[115, 111, 117, 114, 99, 101], [105, 102, 97, 99, 101], [99, 111, 100, 101], [112, 114, 111, 103, 114, 97, 109], [118, 101, 114, 100, 105, 99, 116]]
/-- the name of a file of a build -/
def FnP (l : Bytes) : Prop := ∃ a ∈ fwords, ∃ r, l = a ++ 32 :: r ∧ labL r = true
open Classical in
noncomputable def fnB (s : ByteArray) : Bool := decide (FnP (bl s))
theorem fnB_iff (s : ByteArray) : fnB s = true ↔ FnP (bl s) := by unfold fnB; simp
theorem fwords_no : ∀ a ∈ fwords, (32 : UInt8) ∉ a := by decide
theorem cut_uniq : ∀ {a b r q : Bytes}, (32 : UInt8) ∉ a → (32 : UInt8) ∉ b → a ++ 32 :: r = b ++ 32 :: q → a = b ∧ r = q
  | [], [], r, q, _, _, h => by simpa using h
  | [], y :: b, r, q, _, hb, h => by simp at h; exact absurd (by rw [h.1]; simp) hb
  | x :: a, [], r, q, ha, _, h => by simp at h; exact absurd (by rw [h.1]; simp) ha
  | x :: a, y :: b, r, q, ha, hb, h => by
    simp only [List.cons_append, List.cons.injEq] at h
    simp only [List.mem_cons, not_or] at ha hb
    obtain ⟨h1, h2⟩ := cut_uniq ha.2 hb.2 h.2
    exact ⟨by rw [h.1, h1], h2⟩
theorem fnB_cut {s a b : ByteArray} (h : bl s = bl a ++ 32 :: bl b) (hn : (32 : UInt8) ∉ bl a) : fnB s = (decide (bl a ∈ fwords) && labB b) := by
  rw [Bool.eq_iff_iff, fnB_iff, Bool.and_eq_true, decide_eq_true_iff]
  constructor
  · rintro ⟨v, hv, r, hr, hl⟩
    obtain ⟨h1, h2⟩ := cut_uniq (fwords_no v hv) hn (hr.symm.trans h)
    rw [← h1]
    refine ⟨hv, ?_⟩
    unfold labB; rw [← h2]; exact hl
  · rintro ⟨h1, h2⟩
    exact ⟨bl a, h1, bl b, h, h2⟩
theorem fnB_none {s : ByteArray} (h : (32 : UInt8) ∉ bl s) : fnB s = false := by
  rw [Bool.eq_false_iff]
  intro hf
  obtain ⟨v, _, r, hr, _⟩ := (fnB_iff s).1 hf
  rw [hr] at h
  exact h (by simp)

def CutEnd (s : ByteArray) (w : World) (e : Ending) (w' : World) : Prop :=
  (∃ k, w' = w.drewN k) ∧ ((∃ a b, e = .returned (.tuple #[.string a, .string b, .bool true]) ∧ bl s = bl a ++ 32 :: bl b ∧ (32 : UInt8) ∉ bl a) ∨ ((32 : UInt8) ∉ bl s ∧ e = .returned (.tuple #[.string s, .string ⟨#[]⟩, .bool false])))
set_option maxRecDepth 100000 in
set_option maxHeartbeats 1000000 in
theorem cutLite_any (s : ByteArray) (w : World) (hs : s.size ≤ maxLen) : Calls Tryz.prog 87 #[.string s, .string ⟨#[32]⟩] w (CutEnd s w) := by
  have hs' : s.size ≤ 9223372036854775807 := by unfold maxLen at hs; exact hs
  have HX := Lib.hid (Tryz.stringslite_Index_one s 32 w)
  by_cases hi : Lib.indexByte s.data.toList 32 = -1
  · have HN : Hid ((32 : UInt8) ∉ bl s) := fun hm => by
      obtain ⟨j, hj, e⟩ := List.getElem_of_mem hm
      exact Lib.indexByte_none hi j (by rw [← e]; exact List.getElem?_eq_getElem _)
    rw [hi] at HX
    clear hi
    go_enter Tryz.func87, Tryz.ntmps87
    go_wp2_with fail
    refine HX.out.mono ?_
    rintro e w1 ⟨rfl, rfl⟩
    go_wp2_with fail
    go_ret3
    exact ⟨⟨0, rfl⟩, .inr ⟨HN.out, rfl⟩⟩
  · obtain ⟨i, hi'⟩ : ∃ i : Nat, Lib.indexByte s.data.toList 32 = i := ⟨(Lib.indexByte s.data.toList 32).toNat, by have := Lib.indexByte_ge s.data.toList 32; omega⟩
    obtain ⟨h1, h2⟩ := Lib.indexByte_some hi'
    have hil : i < s.size := by rw [size_len]; exact (List.getElem?_eq_some_iff.1 h1).1
    have HSP : Hid (bl s = bl (s.extract 0 i) ++ 32 :: bl (s.extract (i + 1) s.size) ∧ (32 : UInt8) ∉ bl (s.extract 0 i)) := by
      have e1 : bl (s.extract 0 i) = (bl s).take i := by unfold bl; rw [extract_list]; simp
      have e2 : bl (s.extract (i + 1) s.size) = (bl s).drop (i + 1) := by unfold bl; rw [extract_list, size_len]; rw [List.take_of_length_le (by simp)]
      have hlt : i < (bl s).length := by rw [size_len] at hil; exact hil
      refine ⟨?_, fun hm => ?_⟩
      · rw [e1, e2]
        have e3 : (bl s)[i] = 32 := by have := h1; rw [show s.data.toList = bl s from rfl, List.getElem?_eq_getElem hlt] at this; exact Option.some.inj this
        rw [← e3, ← List.drop_eq_getElem_cons hlt, List.take_append_drop]
      · rw [e1] at hm
        obtain ⟨j, hj, e⟩ := List.getElem_of_mem hm
        rw [List.length_take] at hj
        refine h2 j (by omega) ?_
        rw [List.getElem_take] at e
        rw [← e]; exact List.getElem?_eq_getElem _
    rw [hi'] at HX
    clear hi hi' h1 h2
    go_enter Tryz.func87, Tryz.ntmps87
    go_wp2_with fail
    refine HX.out.mono ?_
    rintro e w1 ⟨rfl, rfl⟩
    have hi0 : (0 : Int) ≤ (i : Int) := by omega
    go_wp2_with fail
    go_quiet (fail)
    go_wp2_with fail
    go_ret3
    exact ⟨⟨_, rfl⟩, .inl ⟨_, _, rfl, HSP.out⟩⟩
set_option maxHeartbeats 1000000 in
theorem cut_any (s : ByteArray) (w : World) (hs : s.size ≤ maxLen) : Calls Tryz.prog 65 #[.string s, .string ⟨#[32]⟩] w (CutEnd s w) := by
  have HX := Lib.hid (cutLite_any s w hs)
  go_enter Tryz.func65, Tryz.ntmps65
  go_wp2_with fail
  refine HX.out.mono ?_
  rintro e w1 ⟨⟨k, rfl⟩, ⟨a, b, rfl, h1, h2⟩ | ⟨h1, rfl⟩⟩
  · have H1 := Lib.hid h1; have H2 := Lib.hid h2; clear h1 h2
    go_wp2_with fail
    go_ret3
    exact ⟨⟨_, rfl⟩, .inl ⟨a, b, rfl, H1.out, H2.out⟩⟩
  · have H1 := Lib.hid h1; clear h1
    go_wp2_with fail
    go_ret3
    exact ⟨⟨_, rfl⟩, .inr ⟨H1.out, rfl⟩⟩
theorem blu (a : ByteArray) (l : Bytes) : a = ⟨l.toArray⟩ ↔ bl a = l := by
  constructor
  · rintro rfl; rfl
  · intro h; exact data_inj h
set_option maxRecDepth 100000 in
set_option maxHeartbeats 4000000 in
theorem fileName_any (s : ByteArray) (w : World) (hs : s.size ≤ maxLen) : Calls Tryz.prog 37 #[.string s] w fun e w' => e = .returned (.bool (fnB s)) ∧ Below w.heap.size w w' := by
  have HX := Lib.hid (cut_any s w hs)
  go_enter Tryz.func37, Tryz.ntmps37
  go_wp2_with fail
  refine HX.out.mono ?_
  rintro e w1 ⟨⟨k, rfl⟩, ⟨a, b, rfl, h1, h2⟩ | ⟨h1, rfl⟩⟩
  · have hv := fnB_cut h1 h2
    have hbs : b.size ≤ maxLen := by
      have e1 := congrArg List.length h1
      rw [size_len]
      rw [size_len] at hs
      simp [bl] at e1 hs ⊢; omega
    have HB0 : Hid (Below w.heap.size w (w.drewN k)) := below_drewN (Below.refl _ _) k
    have HLB := Lib.hid (label_any b (w.drewN k) hbs)
    clear h1 h2 HX

    cases hl : labB b with
    | false =>
      rw [hl] at hv HLB
      have HV := Lib.hid hv; clear hv hl
      go_wp2_with fail
      refine HLB.out.mono ?_
      rintro e w2 ⟨rfl, hb⟩
      have HB := Lib.hid (HB0.out.trans (hb.mono HB0.out.size)); clear hb
      go_wp2_with fail
      go_ret
      exact ⟨ret_bool (by rw [HV.out]; simp), HB.out⟩
    | true =>
      rw [hl] at hv HLB
      have HV := Lib.hid hv; clear hv hl
      have m0 := str_lit a [115, 111, 117, 114, 99, 101]
      have m1 := str_lit a [105, 102, 97, 99, 101]
      have m2 := str_lit a [99, 111, 100, 101]
      have m3 := str_lit a [112, 114, 111, 103, 114, 97, 109]
      have m4 := str_lit a [118, 101, 114, 100, 105, 99, 116]
      go_wp2_with fail
      refine HLB.out.mono ?_
      rintro e w2 ⟨rfl, hb⟩
      have HB := Lib.hid (HB0.out.trans (hb.mono HB0.out.size)); clear hb
      by_cases e0 : a = ⟨[115, 111, 117, 114, 99, 101].toArray⟩
      · rw [decide_eq_true e0] at m0
        have HE : Hid (fnB s = true) := by show _ = _; rw [HV.out, e0]; rfl
        clear e0 m1 m2 m3 m4
        go_wp2_with fail
        go_ret
        exact ⟨ret_bool HE.out.symm, HB.out⟩
      rw [decide_eq_false e0] at m0
      by_cases e1 : a = ⟨[105, 102, 97, 99, 101].toArray⟩
      · rw [decide_eq_true e1] at m1
        have HE : Hid (fnB s = true) := by show _ = _; rw [HV.out, e1]; rfl
        clear e0 e1 m2 m3 m4
        go_wp2_with fail
        go_ret
        exact ⟨ret_bool HE.out.symm, HB.out⟩
      rw [decide_eq_false e1] at m1
      by_cases e2 : a = ⟨[99, 111, 100, 101].toArray⟩
      · rw [decide_eq_true e2] at m2
        have HE : Hid (fnB s = true) := by show _ = _; rw [HV.out, e2]; rfl
        clear e0 e1 e2 m3 m4
        go_wp2_with fail
        go_ret
        exact ⟨ret_bool HE.out.symm, HB.out⟩
      rw [decide_eq_false e2] at m2
      by_cases e3 : a = ⟨[112, 114, 111, 103, 114, 97, 109].toArray⟩
      · rw [decide_eq_true e3] at m3
        have HE : Hid (fnB s = true) := by show _ = _; rw [HV.out, e3]; rfl
        clear e0 e1 e2 e3 m4
        go_wp2_with fail
        go_ret
        exact ⟨ret_bool HE.out.symm, HB.out⟩
      rw [decide_eq_false e3] at m3
      by_cases e4 : a = ⟨[118, 101, 114, 100, 105, 99, 116].toArray⟩
      · rw [decide_eq_true e4] at m4
        have HE : Hid (fnB s = true) := by show _ = _; rw [HV.out, e4]; rfl
        clear e0 e1 e2 e3 e4
        go_wp2_with fail
        go_ret
        exact ⟨ret_bool HE.out.symm, HB.out⟩
      rw [decide_eq_false e4] at m4
      have HE : Hid (fnB s = false) := by
        show _ = _
        rw [HV.out, Bool.and_true, decide_eq_false_iff_not]
        rw [blu] at e0 e1 e2 e3 e4
        unfold fwords
        simp only [List.mem_cons, List.mem_nil_iff, or_false, not_or]
        exact ⟨e0, e1, e2, e3, e4⟩
      clear e0 e1 e2 e3 e4
      go_wp2_with fail
      go_ret
      exact ⟨ret_bool HE.out.symm, HB.out⟩
  · have HE := Lib.hid (fnB_none h1)
    clear h1
    have HB0 : Hid (Below w.heap.size w (w.drewN k)) := below_drewN (Below.refl _ _) k
    go_wp2_with fail
    go_ret
    exact ⟨ret_bool HE.out.symm, HB0.out⟩
end Go.Proofs.YtiphbincnnppdaaGreatDoor

namespace Go.Proofs.YtiphbincnnppdaaGreatDoor
open Go.RowKit

/-- v may be appended to: it owns its row (in a block from base on), or it is empty and has no capacity. -/
def Apd (w : World) (base : Nat) (e : TypeId) (size : Nat) (A : Option Addr) (n c : Nat) (xs : List Value) : Prop :=
  w.ownsRow base e size (.slice A n c) n xs ∨ (n = 0 ∧ c = 0 ∧ xs = [])

section
variable {P : Program} {w w' : World} {base size n c : Nat} {e : TypeId} {A : Option Addr} {xs : List Value}
theorem Apd.sl (h : Apd w base e size A n c xs) : Sl w w.heap.size size A n xs := by
  rcases h with h | ⟨rfl, rfl, rfl⟩
  · exact Sl.of_own h
  · exact Sl.nil _ _ _ _
theorem Apd.below (h : Apd w base e size A n c xs) (hb : Below w.heap.size w w') : Apd w' base e size A n c xs := by
  rcases h with h | h
  · exact .inl (h.kept (row := none) ⟨hb.os, hb.tape, hb.output, hb.size, fun k hk _ => hb.block k hk⟩ (by
      cases hv : (Value.slice A n c).ownBlock with
      | none => exact .inl rfl
      | some k => exact .inr (by simp)))
  · exact .inr h
theorem Apd.setCell (h : Apd w base e size A n c xs) {a : Addr} (ha : a.block < base) (u : Value) : Apd (w.setCell a u) base e size A n c xs := by
  rcases h with h | h
  · exact .inl (ownsRow_setCell_below h ha u)
  · exact .inr h
theorem below_of_none (hg : w.grownBy w' none) : Below w.heap.size w w' := ⟨hg.os, hg.tape, hg.output, hg.size, fun k hk => hg.block k hk (by simp)⟩

/-- onto a slice that is empty and has no capacity: only new memory is made. -/
theorem run_append_empty (t ty : TypeId) (i : TypeInfo) (z : Value) (bytes : Nat) (ht : P.underlying t = some (.slice e)) (hi : P.info? e = some i) (hz : i.zero = some z)
    (hsize : i.size = size) (hby : i.bytes = bytes) (hzs : z.cells.size = size) (hsz : 0 < size)
    {B : Nat} {A' : Option Addr} {m c' : Nat} {ys : List Value} (hsl : Sl w B size A' m ys) (h1 : ∀ u ∈ ys, u.oneCell' = true)
    (h63 : m ≤ maxLen) (hbytes : m * bytes ≤ 140737488355328) (hbase : base ≤ w.heap.size) (A : Option Addr) :
    ∃ A2 c2 w', (Builtin.append_ #[t, t] ty #[.slice A 0 0, .slice A' m c']).run P w = .ok (.slice A2 m c2) w' ∧ Apd w' base e size A2 m c2 ys ∧ Below w.heap.size w w' ∧ m ≤ c2 ∧ c2 ≤ maxLen := by
  rcases Nat.eq_zero_or_pos m with h | hm
  · subst h
    have hy : ys = [] := by
      have := hsl.1; rw [Nat.zero_mul] at this; exact List.length_eq_zero_iff.1 this
    subst hy
    refine ⟨A, 0, w, ?_, .inr ⟨rfl, rfl, rfl⟩, Below.refl _ _, Nat.le_refl _, Nat.zero_le _⟩
    cases A <;> cases A' <;> simp [Builtin.append_, run_underlying ht, sizeOf, typeInfo, hi, Builtin.lenOf, Builtin.firstCells, loadCells, loadCellsFrom, storeCells]
  · -- as onto nil
    have hrun : (Builtin.append_ #[t, t] ty #[.slice A 0 0, .slice A' m c']).run P w = (Builtin.append_ #[t, t] ty #[.slice none 0 0, .slice A' m c']).run P w := by
      obtain ⟨b, off, rfl, _, _⟩ := hsl.2 hm
      cases A with
      | none => rfl
      | some ad =>
        have hroom : ¬ m = 0 := by omega
        have hfit : ¬ 281474976710656 < Builtin.nextslicecap m 0 * i.bytes := by
          have := growslice_fits (old := 0) (need := m) (bytes := bytes) (by omega) hbytes
          rw [hby]; omega
        simp [Builtin.append_, run_underlying ht, sizeOf, typeInfo, hi, Builtin.lenOf, Builtin.firstCells, loadCells, loadCellsFrom, hroom, hfit]
    obtain ⟨A2, c2, w2, hr, ho, hg, hc1, hc2⟩ := run_append_sl (P := P) (base := base) (v := .slice none 0 0) (n := 0) (xs := []) t ty i z bytes ht hi hz hsize hby hzs hsz (World.ownsRow_nil w base e size) (c := c') hsl h1 (by omega) (by rw [Nat.zero_add]; exact hbytes) hbase
    simp only [Nat.zero_add, List.nil_append] at hr ho hc1
    exact ⟨A2, c2, w2, hrun.trans hr, .inl ho, below_of_none hg, hc1, hc2⟩

/-- rows of another element type are as they were -/
def OthersKept (e : TypeId) (w w' : World) : Prop := ∀ (base size n : Nat) (e' : TypeId) (v : Value) (xs : List Value), e' ≠ e → w.ownsRow base e' size v n xs → w'.ownsRow base e' size v n xs
theorem run_append_apd (t ty : TypeId) (i : TypeInfo) (z : Value) (bytes : Nat) (ht : P.underlying t = some (.slice e)) (hi : P.info? e = some i) (hz : i.zero = some z)
    (hsize : i.size = size) (hby : i.bytes = bytes) (hzs : z.cells.size = size) (hsz : 0 < size) (ha : Apd w base e size A n c xs)
    {B : Nat} {A' : Option Addr} {m c' : Nat} {ys : List Value} (hsl : Sl w B size A' m ys) (h1 : ∀ u ∈ ys, u.oneCell' = true)
    (h63 : n + m ≤ maxLen) (hbytes : (n + m) * bytes ≤ 140737488355328) (hbase : base ≤ w.heap.size) :
    ∃ A2 c2 w', (Builtin.append_ #[t, t] ty #[.slice A n c, .slice A' m c']).run P w = .ok (.slice A2 (n + m) c2) w' ∧ Apd w' base e size A2 (n + m) c2 (xs ++ ys) ∧ Below base w w' ∧ n + m ≤ c2 ∧ c2 ≤ maxLen ∧ OthersKept e w w' := by
  rcases ha with h | ⟨rfl, rfl, rfl⟩
  · obtain ⟨A2, c2, w2, hr, ho, hg, hc1, hc2⟩ := run_append_sl (P := P) t ty i z bytes ht hi hz hsize hby hzs hsz h (c := c') hsl h1 h63 hbytes hbase
    exact ⟨A2, c2, w2, hr, .inl ho, (Below.refl _ w).grown hg hbase (fun k hk => ownBlock_ge h k hk), hc1, hc2, fun _ _ _ _ _ _ hne h' => h'.kept hg (ownsRow_apart h h' hne)⟩
  · obtain ⟨A2, c2, w2, hr, ho, hg, hc1, hc2⟩ := run_append_empty (P := P) (base := base) t ty i z bytes ht hi hz hsize hby hzs hsz (c' := c') hsl h1 (by omega) (by rw [Nat.zero_add] at hbytes; exact hbytes) hbase A
    rw [Nat.zero_add, List.nil_append]
    exact ⟨A2, c2, w2, hr, ho, hg.mono hbase, hc1, hc2, fun _ _ _ _ v _ _ h' => h'.kept (row := none) ⟨hg.os, hg.tape, hg.output, hg.size, fun k hk _ => hg.block k hk⟩ (by cases hv : v.ownBlock with | none => exact .inl rfl | some k => exact .inr (by simp))⟩

/-- `append(s, x...)` at the operation, s as above. -/
theorem wpList_append_apd (w : World) {ops : Array Oper} {rest : List Oper} {o : Oper} {a : Act} {Q : Exit → Act → World → Prop} (hgd : o.guard = none) (s x : Operand) (t : TypeId)
    (ho : o.op = .call { callee := .builtin .append, args := #[s, x], argTypes := #[t, t] })
    (e : TypeId) (i : TypeInfo) (z : Value) (bytes : Nat) (ht : P.underlying t = some (.slice e)) (hi : P.info? e = some i) (hz : i.zero = some z)
    (hsize : i.size = size) (hby : i.bytes = bytes) (hzs : z.cells.size = size) (hsz : 0 < size)
    (A : Option Addr) (n c : Nat) (xs : List Value) (hs : a.eval s = .slice A n c) (hown : Apd w base e size A n c xs)
    (B : Nat) (A' : Option Addr) (m c' : Nat) (ys : List Value) (hx : a.eval x = .slice A' m c') (hsl : Sl w B size A' m ys) (h1 : ∀ u ∈ ys, u.oneCell' = true)
    (h63 : n + m ≤ maxLen) (hbytes : (n + m) * bytes ≤ 140737488355328) (hbase : base ≤ w.heap.size)
    (h : ∀ A2 c2 w', Apd w' base e size A2 (n + m) c2 (xs ++ ys) → Below base w w' → n + m ≤ c2 → c2 ≤ maxLen → OthersKept e w w' → wpList P ops Q rest (a.put o.dst (.slice A2 (n + m) c2)) w') : wpList P ops Q (o :: rest) a w := by
  refine wpList_plain hgd fun K hK => ?_
  obtain ⟨A2, c2, w', hr, ho', hg, hc1, hc2, hok⟩ := run_append_apd (P := P) t o.type i z bytes ht hi hz hsize hby hzs hsz hown (c' := c') hsl h1 h63 hbytes hbase
  unfold Oper.wp
  simp [execOp, ho, resolve, invoke, builtin, hs, hx, hr, Result.andThen]
  exact hK _ _ (h A2 c2 w' ho' hg hc1 hc2 hok)
end
end Go.Proofs.YtiphbincnnppdaaGreatDoor

namespace Go.Proofs.YtiphbincnnppdaaGreatDoor
open Go.RowKit

def Que (w : World) (base : Nat) (e : TypeId) (size : Nat) (A : Option Addr) (n c : Nat) (xs : List Value) : Prop :=
  xs.length = n * size ∧ ((n = 0 ∧ c = 0) ∨ ∃ g off cur, A = some ⟨g, off, none⟩ ∧ base ≤ g ∧ w.heap[g]? = some (.cells cur e (0, 0)) ∧ n ≤ c ∧ c ≤ maxLen ∧ cur.size = off + c * size ∧ (cur.toList.drop off).take (n * size) = xs)
section
variable {P : Program} {w w' : World} {base size n c : Nat} {e : TypeId} {A : Option Addr} {xs : List Value}
theorem Que.of_own (h : w.ownsRow base e size (.slice A n c) n xs) : Que w base e size A n c xs := by
  refine ⟨h.1, ?_⟩
  rcases h.2 with ⟨hv, h0⟩ | ⟨g, cap, cur, hv, h1, h2, h3, h4, h5, h6⟩
  · simp at hv; exact .inl ⟨h0, hv.2.2⟩
  · simp at hv
    obtain ⟨rfl, rfl⟩ := hv
    exact .inr ⟨g, 0, cur, rfl, h1, h2, h3, h4, by omega, by simpa using h6⟩
theorem Que.more {base' : Nat} (h : Que w base e size A n c xs) (hb : base' ≤ base) : Que w base' e size A n c xs := by
  obtain ⟨h0, h | ⟨g, off, cur, h1, h2, h3⟩⟩ := h
  · exact ⟨h0, .inl h⟩
  · exact ⟨h0, .inr ⟨g, off, cur, h1, by omega, h3⟩⟩
theorem Que.le (h : Que w base e size A n c xs) : n ≤ c ∧ c ≤ maxLen := by
  obtain ⟨h0, ⟨rfl, rfl⟩ | ⟨g, off, cur, h1, h2, h3, h4, h5, _⟩⟩ := h
  · exact ⟨Nat.le_refl _, Nat.zero_le _⟩
  · exact ⟨h4, h5⟩
/-- it stays while blocks of its element type stay -/
theorem Que.keep (h : Que w base e size A n c xs) (hk : ∀ (g : Nat) (cur : Array Value), w.heap[g]? = some (Obj.cells cur e (0, 0)) → w'.heap[g]? = w.heap[g]?) : Que w' base e size A n c xs := by
  obtain ⟨h0, h | ⟨g, off, cur, h1, h2, h3, h4⟩⟩ := h
  · exact ⟨h0, .inl h⟩
  · exact ⟨h0, .inr ⟨g, off, cur, h1, h2, (hk g cur h3).trans h3, h4⟩⟩
theorem Que.sl (h : Que w base e size A n c xs) : Sl w w.heap.size size A n xs := by
  obtain ⟨h0, ⟨rfl, rfl⟩ | ⟨g, off, cur, h1, h2, h3, h4, h5, h6, h7⟩⟩ := h
  · exact ⟨h0, fun h => absurd h (by omega)⟩
  · refine ⟨h0, fun _ => ⟨g, off, h1, (Array.getElem?_eq_some_iff.1 h3).1, fun j u hu => ?_⟩⟩
    rw [← h7, List.getElem?_take] at hu
    split at hu
    · rw [List.getElem?_drop] at hu
      simp [World.cell?, h3]
      simpa using hu
    · cases hu
/-- s[1:] -/
theorem Que.tail {g off : Nat} (h : Que w base e size (some ⟨g, off, none⟩) (n + 1) c xs) : Que w base e size (some ⟨g, off + size, none⟩) n (c - 1) (xs.drop size) := by
  obtain ⟨h0, ⟨h1, _⟩ | ⟨g', off', cur, h1, h2, h3, h4, h5, h6, h7⟩⟩ := h
  · omega
  · simp at h1
    obtain ⟨rfl, rfl⟩ := h1
    have hc : c * size = (c - 1) * size + size := by
      have : c = (c - 1) + 1 := by omega
      rw [this, Nat.add_mul]; simp
    have hn : (n + 1) * size = n * size + size := by rw [Nat.add_mul]; simp
    refine ⟨by rw [List.length_drop, h0, hn]; omega, .inr ⟨g, off + size, cur, rfl, h2, h3, by omega, by omega, by omega, ?_⟩⟩
    rw [← h7, hn, List.drop_take, List.drop_drop]
    congr 1
    omega
theorem run_append_que (t ty : TypeId) (i : TypeInfo) (z : Value) (bytes : Nat) (ht : P.underlying t = some (.slice e)) (hi : P.info? e = some i) (hz : i.zero = some z)
    (hsize : i.size = size) (hby : i.bytes = bytes) (hzs : z.cells.size = size) (hsz : 0 < size) (ha : Que w base e size A n c xs)
    {B : Nat} {A' : Option Addr} {m c' : Nat} {ys : List Value} (hsl : Sl w B size A' m ys) (h1 : ∀ u ∈ ys, u.oneCell' = true) (hm : 0 < m)
    (h63 : n + m ≤ maxLen) (hbytes : (n + m) * bytes ≤ 140737488355328) (hbase : base ≤ w.heap.size) :
    ∃ A2 c2 w' row, (Builtin.append_ #[t, t] ty #[.slice A n c, .slice A' m c']).run P w = .ok (.slice A2 (n + m) c2) w' ∧ Que w' base e size A2 (n + m) c2 (xs ++ ys) ∧ w.grownBy w' row ∧ (∀ g, row = some g → base ≤ g ∧ (∃ cur, w.heap[g]? = some (.cells cur e (0, 0))) ∧ c ≠ 0 ∧ ∃ off, A = some ⟨g, off, none⟩) ∧ ∀ g off, A2 = some ⟨g, off, none⟩ → (c ≠ 0 ∧ ∃ off, A = some ⟨g, off, none⟩) ∨ w.heap.size ≤ g := by
  obtain ⟨h0, ⟨rfl, rfl⟩ | ⟨g, off, cur, rfl, h2, h3, h4, h5, h6, h7⟩⟩ := ha
  · have hx : xs = [] := List.eq_nil_of_length_eq_zero (by simpa using h0)
    subst hx
    obtain ⟨A2, c2, w2, hr, ho, hg, hc1, hc2⟩ := run_append_empty (P := P) (base := w.heap.size) t ty i z bytes ht hi hz hsize hby hzs hsz (c' := c') hsl h1 (by omega) (by rw [Nat.zero_add] at hbytes; exact hbytes) (Nat.le_refl _) A
    rw [Nat.zero_add, List.nil_append]
    rcases ho with ho | ⟨e1, _⟩
    · refine ⟨A2, c2, w2, none, hr, (Que.of_own ho).more hbase, ⟨hg.os, hg.tape, hg.output, hg.size, fun k hk _ => hg.block k hk⟩, (fun g h => by cases h), fun g off e => .inr ?_⟩
      subst e
      exact (ho.lt g rfl).1
    · omega
  · obtain ⟨b', off', rfl, hb', hcy⟩ := hsl.2 hm
    have hnews : ∀ j u, ys[j]? = some u → w.cell? (Addr.add ⟨b', off', none⟩ j) = some u := fun j u hj => by rw [Addr.add_lit]; exact hcy j u hj
    by_cases hroom : n + m ≤ c
    · subst hsize
      have hf := run_firstCells_some (P := P) w i.size m ⟨b', off', none⟩ m c' ys hsl.1 hnews
      have hfit : off + n * i.size + ys.length ≤ cur.size := by
        rw [hsl.1, h6, Nat.add_assoc, ← Nat.add_mul]; exact Nat.add_le_add_left (Nat.mul_le_mul_right _ hroom) _
      have hst := run_storeCells_at P g (off + n * i.size) e ys 0 cur w h3 (by simpa using hfit) h1
      simp only [Nat.add_zero] at hst
      refine ⟨some ⟨g, off, none⟩, c, w.setRow g (cur.toList.take (off + n * i.size) ++ ys ++ cur.toList.drop (off + n * i.size + ys.length)).toArray, some g, ?_, ?_, ⟨rfl, rfl, rfl, by simp, fun k _ hk => setRow_other w g k _ (fun e => hk (by simp [e]))⟩, (fun g' e' => by cases e'; exact ⟨h2, ⟨cur, h3⟩, by omega, off, rfl⟩), fun g' o' e' => .inl ⟨by omega, off, by cases e'; rfl⟩⟩
      · simp [Builtin.append_, run_underlying ht, sizeOf, typeInfo, hi, Builtin.lenOf, hroom, hf, Addr.add_lit, hst]
      · have hlen : (xs ++ ys).length = (n + m) * i.size := by rw [List.length_append, h0, hsl.1, Nat.add_mul]
        refine ⟨hlen, .inr ⟨g, off, _, rfl, h2, setRow_heap w g cur _ e _ h3, hroom, h5, ?_, ?_⟩⟩
        · simp only [List.size_toArray, List.length_append, List.length_take, List.length_drop, Array.length_toList]
          omega
        · have e1 : cur.toList.take (off + n * i.size) = cur.toList.take off ++ xs := by rw [← h7, List.take_add]
          have e2 : (cur.toList.take off).length = off := by rw [List.length_take, Array.length_toList]; omega
          simp only [e1, List.append_assoc]
          rw [List.drop_append_of_le_length (by omega), List.drop_of_length_le (by omega), List.nil_append, ← List.append_assoc, ← hlen]
          exact List.take_left
    · obtain ⟨v', w2, hrun, r1, r2⟩ := run_append_arg_grows (P := P) w t ty e i z size bytes ht hi hz hsize hby hzs hsz ⟨g, off, none⟩ n c xs h0 (fun j u hj => by
        rw [Addr.add_lit]
        have := (Que.sl (w := w) (base := base) (e := e) (c := c) ⟨h0, .inr ⟨g, off, cur, rfl, h2, h3, h4, h5, h6, h7⟩⟩).2
        rcases Nat.eq_zero_or_pos n with hn | hn
        · subst hn
          have hx : xs = [] := List.eq_nil_of_length_eq_zero (by simpa using h0)
          subst hx; simp at hj
        · obtain ⟨b1, o1, e1, _, hc1⟩ := this hn
          simp at e1
          obtain ⟨rfl, rfl⟩ := e1
          exact hc1 j u hj) ⟨b', off', none⟩ m c' ys hsl.1 hnews (by omega) h63 hbytes
      rcases r1.2 with ⟨_, h8⟩ | ⟨g2, cap2, cur2, rfl, h8, _⟩
      · omega
      · exact ⟨_, cap2, w2, none, hrun, (Que.of_own r1).more hbase, r2, (fun g h => by cases h), fun g' o' e' => .inr (by cases e'; exact h8)⟩
end
end Go.Proofs.YtiphbincnnppdaaGreatDoor

namespace Go.Proofs.YtiphbincnnppdaaGreatDoor
open Go.RowKit Go.Maps

/-- an element reads as itself -/
def rawR (v : Value) : Option (DataW Value × List MemPlace) := some (.held v, [])
theorem rawR_inv {v u : Value} {ps : List MemPlace} (h : rawR v = some (.held u, ps)) : v = u := by
  simp [rawR] at h; exact h.1
/-- Block b is a map with at most N entries; g tells what a key has. -/
def Rm (w : World) (P : Program) (k : TypeId) (b N : Nat) (g : ByteArray → Option Value) : Prop :=
  ∃ D : DataW Value, w.ownsMap P k rawR b N D ∧ ∀ s : ByteArray, Maps.has D (.string s.data.toList) = (g s).isSome ∧ ∀ z, D.atKey (.string s.data.toList) (.held z) = .held ((g s).getD z)
def upd (g : ByteArray → Option Value) (s : ByteArray) (v : Value) : ByteArray → Option Value := fun t => if t = s then some v else g t
theorem upd_same (g : ByteArray → Option Value) (s : ByteArray) (v : Value) : upd g s v s = some v := by simp [upd]
theorem upd_other (g : ByteArray → Option Value) {s t : ByteArray} (v : Value) (h : t ≠ s) : upd g s v t = g t := by simp [upd, h]

section
variable {w w' : World} {P : Program} {k t e : TypeId} {b N : Nat} {g : ByteArray → Option Value}
theorem Rm.made (w : World) (P : Program) (k : TypeId) : Rm (w.alloc (.map #[] 0)) P k w.heap.size 0 (fun _ => none) :=
  ⟨.map [], World.ownsMap_made w P k rawR, fun _ => ⟨rfl, fun _ => rfl⟩⟩
theorem Rm.lt (h : Rm w P k b N g) : b < w.heap.size := h.choose_spec.1.lt
theorem Rm.more (h : Rm w P k b N g) {M : Nat} (hm : N ≤ M) : Rm w P k b M g := by
  obtain ⟨D, h1, h2⟩ := h; exact ⟨D, h1.mono hm, h2⟩
theorem Rm.kept {row : Option Nat} (h : Rm w P k b N g) (hg : w.grownBy w' row) (hr : some b ≠ row) : Rm w' P k b N g := by
  obtain ⟨D, h1, h2⟩ := h; exact ⟨D, h1.kept hg hr, h2⟩
theorem Rm.below {B : Nat} (h : Rm w P k b N g) (hb : Below B w w') (hB : b < B) : Rm w' P k b N g := by
  obtain ⟨D, ⟨es, clock, h1, h2⟩, h3⟩ := h
  exact ⟨D, ⟨es, clock, (hb.block b hB).trans h1, h2⟩, h3⟩
theorem Rm.alloc (h : Rm w P k b N g) (o : Obj) : Rm (w.alloc o) P k b N g := h.kept (World.grownBy_alloc w o none) (by simp)
theorem key_str (hk : P.underlying k = some .string) {s : ByteArray} (hs : s.size ≤ maxLen) : keyOf P k (.string s) = some (.string s.data.toList) := by simp [keyOf, hk, mapKey]; exact hs
theorem Rm.look (h : Rm w P k b N g) (hk : P.underlying k = some .string) (ht : P.underlying t = some (.map k e)) {z : Value} (hz : (zeroValue e).run P w = .ok z w) {s : ByteArray} (hs : s.size ≤ maxLen) :
    (Instr.lookup t (.map (some b)) (.string s) false).run P w = .ok ((g s).getD z) w := by
  obtain ⟨D, h1, h2⟩ := h
  obtain ⟨v, ps, hrun, hv⟩ := h1.lookup (string_keyed hk) ht hz (zd := .held z) (zp := []) rfl (key_str hk hs)
  rw [(h2 s).2 z] at hv
  rw [hrun, rawR_inv hv]
theorem Rm.look_ok (h : Rm w P k b N g) (hk : P.underlying k = some .string) (ht : P.underlying t = some (.map k e)) {z : Value} (hz : (zeroValue e).run P w = .ok z w) {s : ByteArray} (hs : s.size ≤ maxLen) :
    (Instr.lookup t (.map (some b)) (.string s) true).run P w = .ok (.tuple #[(g s).getD z, .bool (g s).isSome]) w := by
  obtain ⟨D, h1, h2⟩ := h
  obtain ⟨v, ps, hrun, hv⟩ := h1.look_ok (string_keyed hk) ht hz (zd := .held z) (zp := []) rfl (key_str hk hs)
  rw [(h2 s).2 z] at hv
  rw [hrun, rawR_inv hv, (h2 s).1]
theorem lit_ne {s r : ByteArray} (h : r ≠ s) : (Lit.string r.data.toList) ≠ .string s.data.toList := fun e => h (data_inj (by injection e))
theorem Rm.put (h : Rm w P k b N g) (hk : P.underlying k = some .string) (ht : P.underlying t = some (.map k e)) (hn : N < maxLen) {s : ByteArray} (hs : s.size ≤ maxLen) (v : Value) :
    ∃ w', (Instr.mapUpdate t (.map (some b)) (.string s) v).run P w = .ok () w' ∧ Rm w' P k b (N + 1) (upd g s v) ∧ w.grownBy w' (some b) := by
  obtain ⟨D, h1, h2⟩ := h
  obtain ⟨w', hrun, ho, hg⟩ := h1.update (string_keyed hk) ht hn (key_str hk hs) (d := .held v) (ps := []) rfl
  refine ⟨w', hrun, ⟨_, ho, fun r => ?_⟩, hg⟩
  have hkl := (string_keyed hk).key (key_str hk hs)
  by_cases hr : r = s
  · subst hr
    rw [upd_same, has_put_same h1.isMap hkl]
    exact ⟨rfl, fun z => atKey_put_same h1.isMap hkl _ _⟩
  · rw [upd_other _ _ hr, has_put_other (lit_ne hr)]
    exact ⟨(h2 r).1, fun z => (atKey_put_other (lit_ne hr) _ _).trans ((h2 r).2 z)⟩
/-- at the operation -/
theorem wpList_put_rm {ops : Array Oper} {rest : List Oper} {o : Oper} {a : Act} {Q : Exit → Act → World → Prop} (hgd : o.guard = none) (m x y : Operand) (t : TypeId) (hop : o.op = Op.mapUpdate t m x y)
    (k e : TypeId) (hk : P.underlying k = some .string) (ht : P.underlying t = some (.map k e)) (b N : Nat) (g : ByteArray → Option Value) (hm : a.eval m = .map (some b)) (h : Rm w P k b N g) (hn : N < maxLen)
    (s : ByteArray) (hs : s.size ≤ maxLen) (v : Value) (hx : a.eval x = .string s) (hy : a.eval y = v)
    (hK : ∀ w', Rm w' P k b (N + 1) (upd g s v) → w.grownBy w' (some b) → wpList P ops Q rest (a.put o.dst undef) w') : wpList P ops Q (o :: rest) a w := by
  refine wpList_plain hgd fun K' hK' => ?_
  obtain ⟨w', hrun, r1, r2⟩ := h.put hk ht hn hs v
  unfold Oper.wp
  simp [execOp, hop, hm, hx, hy, hrun, Result.andThen]
  exact hK' _ _ (hK w' r1 r2)

/-! ### ranging -/
/-- The map in block b is being ranged over by the iterator in block r: left are the keys that are still to come. -/
def RmR (w : World) (P : Program) (k : TypeId) (b r N : Nat) (g : ByteArray → Option Value) (left : ByteArray → Bool) (cnt : Nat) : Prop :=
  ∃ (D : DataW Value) (lf : Lit → Bool), w.ranges P k rawR b r N D lf cnt ∧ (∀ s : ByteArray, Maps.has D (.string s.data.toList) = (g s).isSome ∧ ∀ z, D.atKey (.string s.data.toList) (.held z) = .held ((g s).getD z)) ∧ ∀ s : ByteArray, lf (.string s.data.toList) = left s
variable {r cnt : Nat} {left : ByteArray → Bool}
theorem RmR.rm (h : RmR w P k b r N g left cnt) : Rm w P k b N g := by
  obtain ⟨D, lf, ⟨es, clock, since, seen, c0, hb, F, hs, hD, _⟩, h2, _⟩ := h
  exact ⟨D, ⟨es, clock, hb, F, hs, hD⟩, h2⟩
theorem RmR.kept {row : Option Nat} (h : RmR w P k b r N g left cnt) (hg : w.grownBy w' row) (hb : some b ≠ row) (hr : some r ≠ row) : RmR w' P k b r N g left cnt := by
  obtain ⟨D, lf, ⟨es, clock, since, seen, c0, h1, F, hs, hD, h3, h4⟩, h2, h5⟩ := h
  exact ⟨D, lf, ⟨es, clock, since, seen, c0, (hg.block b (Array.getElem?_eq_some_iff.1 h1).1 hb).trans h1, F, hs, hD, (hg.block r (Array.getElem?_eq_some_iff.1 h3).1 hr).trans h3, h4⟩, h2, h5⟩
theorem RmR.below {B : Nat} (h : RmR w P k b r N g left cnt) (hw : Below B w w') (hb : b < B) (hr : r < B) : RmR w' P k b r N g left cnt := by
  obtain ⟨D, lf, ⟨es, clock, since, seen, c0, h1, F, hs, hD, h3, h4⟩, h2, h5⟩ := h
  exact ⟨D, lf, ⟨es, clock, since, seen, c0, (hw.block b hb).trans h1, F, hs, hD, (hw.block r hr).trans h3, h4⟩, h2, h5⟩
theorem RmR.left_ (h : RmR w P k b r N g left cnt) : w.rangeLeft b r = cnt := by
  obtain ⟨D, lf, ⟨es, clock, since, seen, c0, h1, F, hs, hD, h3, _, h4, _⟩, _⟩ := h
  simp [World.rangeLeft, h1, h3, h4]
theorem key_inv (hk : P.underlying k = some .string) {key : Value} {kl : Lit} (h : keyOf P k key = some kl) : ∃ s : ByteArray, key = .string s ∧ kl = .string s.data.toList ∧ s.size ≤ maxLen := by
  cases key <;> simp [keyOf, hk, mapKey] at h
  exact ⟨_, rfl, h.2.symm, h.1⟩
theorem same_str (s z : ByteArray) : (Lit.string z.data.toList).sameKey (.string s.data.toList) = decide (z = s) := by
  rw [sameKey_str]
  by_cases h : z = s
  · subst h; simp
  · simp only [h, decide_false]
    rw [beq_eq_false_iff_ne]; exact fun e => h (data_inj e)
theorem wpList_range_rm {ops : Array Oper} {rest : List Oper} {o : Oper} {a : Act} {Q : Exit → Act → World → Prop} (hgd : o.guard = none) (m : Operand) (t : TypeId) (hop : o.op = Op.range t m)
    (k e : TypeId) (hk : P.underlying k = some .string) (ht : P.underlying t = some (.map k e)) (b N : Nat) (g : ByteArray → Option Value) (hm : a.eval m = .map (some b)) (h : Rm w P k b N g)
    (hK : ∀ w' cnt, RmR w' P k b w.heap.size N g (fun s => (g s).isSome) cnt → w.grownBy w' none → w'.heap.size = w.heap.size + 1 → wpList P ops Q rest (a.put o.dst (.pointer (some ⟨w.heap.size, 0, none⟩))) w') : wpList P ops Q (o :: rest) a w := by
  obtain ⟨D, h1, h2⟩ := h
  refine wpList_range_own w hgd m t hop k e (string_keyed hk) ht rawR b N D hm h1 (fun w' h3 h4 h5 => hK w' _ ⟨D, _, h3, h2, fun s => (h2 s).1⟩ h4 h5)
theorem wpList_next_rm {ops : Array Oper} {rest : List Oper} {o : Oper} {a : Act} {Q : Exit → Act → World → Prop} (hgd : o.guard = none) (it : Operand) (hop : o.op = Op.next it false)
    (k : TypeId) (hk : P.underlying k = some .string) (b r N : Nat) (g : ByteArray → Option Value) (left : ByteArray → Bool) (cnt : Nat) (hit : a.eval it = .pointer (some ⟨r, 0, none⟩)) (h : RmR w P k b r N g left cnt)
    (hDone : (∀ s, left s = false) → wpList P ops Q rest (a.put o.dst (.tuple #[.bool false])) w)
    (hMore : ∀ (s : ByteArray) (v : Value) (w' : World) (cnt' : Nat), s.size ≤ maxLen → left s = true → g s = some v → RmR w' P k b r N g (fun z => left z && !decide (z = s)) cnt' → cnt' < cnt → w.grownBy w' (some r) → w'.heap.size = w.heap.size →
      (Instr.entry (.pointer (some ⟨r, 0, none⟩))).run P w' = .ok (.tuple #[.string s, v]) w' → wpList P ops Q rest (a.put o.dst (.tuple #[.bool true, .string s, v])) w') : wpList P ops Q (o :: rest) a w := by
  obtain ⟨D, lf, h1, h2, h3⟩ := h
  refine wpList_next_ranges (α := ByteArray) (β := Value) w hgd it hop k (string_keyed hk) rawR (fun s => .string s) id (fun key kl hkey => ?_) (fun v y _ => ⟨v, rfl⟩) b r N D lf cnt hit h1
    (fun _ hl => hDone fun s => by rw [← h3 s]; exact hl _) (fun s v kl y w' cnt' hkey hlk hv hat hrg hlt hgr hsz hen => ?_)
  · obtain ⟨s, e, _⟩ := key_inv hk hkey; exact ⟨s, e⟩
  · obtain ⟨s', e1, e2, hz⟩ := key_inv hk hkey
    cases e1
    subst e2
    have hl : left s = true := by rw [← h3 s]; exact hlk
    have hy : y = (.held v, []) := by simp [rawR] at hv; exact hv.symm
    subst hy
    have hg1 : (g s).isSome = true := by rw [← (h2 s).1]; exact has_true_of_atKey hat
    obtain ⟨u, hu⟩ := Option.isSome_iff_exists.1 hg1
    have hg2 : g s = some v := by
      have e1 := (h2 s).2 v
      rw [hat] at e1
      rw [hu] at e1 ⊢
      simp at e1
      rw [e1]
    exact hMore s v w' cnt' hz hl hg2 ⟨D, _, hrg, h2, fun z => by simp only [h3, same_str]⟩ hlt hgr hsz hen
end
end Go.Proofs.YtiphbincnnppdaaGreatDoor

namespace Go.Proofs.YtiphbincnnppdaaGreatDoor
open Go.RowKit

/-- What an iterator does that keeps its state in memory of its own: it may change the world by steps St between two rounds; it hands over elements; all have come (S), or a part of them (Sp). -/
def SeqT {α : Type} (F : Fence) (n : Nat) (P : Program) (g : Nat) (lb : Array Value) (encs : α → Array Value) (Kp St : World → World → Prop) (Pf S Sp : List α → Prop) (hz : Nat) (w : World) : Prop :=
  ∀ (l : Nat) (J Jx : List α → World → Prop) (W : World), Below w.heap.size w W → W.heap.size = hz → (∀ pre A B, J pre A → St A B → J pre B) →
    (∀ pre x W1, Pf (pre ++ [x]) → J pre W1 → YieldAt F (n - 1) P l (encs x) W1 fun e W' =>
      (e = .returned (.bool true) ∧ J (pre ++ [x]) W' ∧ Kp W1 W') ∨ (e = .returned (.bool false) ∧ Jx (pre ++ [x]) W')) →
    J [] W →
    CallsIn F n P g (#[.func (.yield l) #[] #[]] ++ lb) W fun e W' => (∃ v, e = .returned v) ∧ ((∃ xs, S xs ∧ J xs W') ∨ (∃ pre, Sp pre ∧ Jx pre W'))

/-- the loop's own two blocks are as they were -/
def Rec2 (D : Nat) (W W' : World) : Prop := W'.heap[D]? = W.heap[D]? ∧ W'.heap[D + 1]? = W.heap[D + 1]?
theorem Rec2.refl (D : Nat) (W : World) : Rec2 D W W := ⟨rfl, rfl⟩
def ownPostT {α : Type} (D : Nat) (Kp : World → World → Prop) (I : List α → World → Prop) (Ix : Code → List α → World → Prop) (xs : List α) (W : World) : Exit → Act → World → Prop
  | .normal, _, W' => Rec2 D W W' ∧ Kp W W' ∧ I xs W'
  | .ret, _, W' => Rec2 D W W' ∧ Ix .ret xs W'
  | .exit id, _, W' => Rec2 D W W' ∧ Ix (.exit id) xs W'
  | .goto t, _, W' => Rec2 D W W' ∧ Ix (.goto t) xs W'
  | .panic _, _, _ => False
  | .outgrown, _, _ => False
variable {F : Fence} {n : Nat} {P : Program}

theorem wpIn_rangeT {α : Type} {g : Operand} {ps : Array Tmp} {assign body : Code} {Q : Exit → Act → World → Prop} {a : Act} {w : World}
    (hro : F.round = none) (h1 : 1 ≤ n) {gf : Nat} {lb : Array Value} (hg : a.eval g = .func (.func gf) #[] lb) (hFg : F.fn gf) (eg : ∀ args w, (callFunc gf args).run P w = .ok (.enter gf args) w)
    {encs : α → Array Value} {Kp St : World → World → Prop} {Pf S Sp : List α → Prop} {w0 : World} (hseq : SeqT F (n - 1) P gf lb encs Kp St Pf S Sp (w.heap.size + 2) w0)
    (hKt : ∀ {A B C : World}, Kp A B → Kp B C → Kp A C) (hKb : ∀ (W : World) (l : Nat) (r : Loop) (o' : Obj), w.heap.size + 1 = l → W.heap[l]? = some (.loop r) → Kp W (W.putObj l o')) (hSo : ∀ A B, St A B → w.heap.size + 2 ≤ A.heap.size → Rec2 w.heap.size A B) (hb0 : Below w0.heap.size w0 w) (hps : ∀ x, (encs x).size = ps.size)
    (I : List α → World → Prop) (Ix : Code → List α → World → Prop) (hI : OwnFrom w.heap.size I) (hIx : ∀ c, OwnFrom w.heap.size (Ix c)) (hIS : ∀ pre A B, I pre A → St A B → I pre B) (h0 : I [] w) (a₁ : α → Act)
    (hassign : ∀ (l : Nat) (x : α) (W : World) (K : Act → World → Prop), K (a₁ x) W →
      assign.wpIn (F.inRound l) (n - 1 - 1) P (Exit.then K (fun _ _ _ => False)) { tmps := (ps.zip (encs x)).foldl (fun t (p, v) => t.setIfInBounds p v) a.tmps, defers := [] } W)
    (hbody : ∀ (l : Nat) (pre : List α) (x : α) (W : World), Pf (pre ++ [x]) → w.heap.size + 2 ≤ W.heap.size → I pre W → body.wpIn (F.inRound l) (n - 1 - 1) P (ownPostT w.heap.size Kp I Ix (pre ++ [x]) W) (a₁ x) W)
    (hdone : ∀ (D : Nat) (xs : List α) (W : World), w.heap.size ≤ D → S xs → I xs W → W.heap[D]? = some (.deferred (some [])) → Q .normal { a with defers := { target := .collected D, args := #[] } :: a.defers } W)
    (hstop : ∀ (D : Nat) (c : Code) (pre : List α) (W : World), w.heap.size ≤ D → Sp pre → Ix c pre W → W.heap[D]? = some (.deferred (some [])) → c.wpIn F n P Q { a with defers := { target := .collected D, args := #[] } :: a.defers } W) :
    (Code.rangeFunc g ps assign body).wpIn F n P Q a w := by
  refine wpIn_rangeFunc ?_
  intro fn hfn
  rw [hro]
  -- the loop's record in block L, the block of its deferred calls in block D
  obtain ⟨D, hD⟩ : ∃ D, w.heap.size = D := ⟨_, rfl⟩
  obtain ⟨rec, hrec⟩ : ∃ rec : LoopState → Option Code → Loop, rec = fun st pe => { state := st, pending := pe, fn, tmps := a.tmps, params := ps, assign, body, defers := D } := ⟨_, rfl⟩
  obtain ⟨W1, hW1⟩ : ∃ W1, (w.alloc (.deferred (some []))).alloc (.loop (rec .ready none)) = W1 := ⟨_, rfl⟩
  have hL1 : W1.heap[D + 1]? = some (.loop (rec .ready none)) := by
    rw [← hW1, ← hD]; have := World.alloc_heap_new (w.alloc (.deferred (some []))) (.loop (rec .ready none)); rwa [World.size_alloc] at this
  have hK1 : W1.heap[D]? = some (.deferred (some [])) := by
    rw [← hW1, ← hD]; exact (Below.heap_alloc _ _ _ (by simp)).trans (World.alloc_heap_new w _)
  have hI1 : I [] W1 := by rw [← hW1]; exact hI.alloc _ (hI.alloc _ h0)
  have hb1 : Below w0.heap.size w0 W1 := by
    rw [← hW1]; exact hb0.trans ((((Below.refl _ w).alloc (Nat.le_refl _) _).alloc (by simp) _).mono hb0.size)
  refine ⟨D + 1, [{ target := .collected D, args := #[] }], W1, { target := .fn (.func gf) lb, args := #[.func (.yield (D + 1)) #[] #[]] }, W1, gf,
    #[.func (.yield (D + 1)) #[] #[]] ++ lb, W1, ?_, ?_, ?_, ?_, fun _ => h1, ?_⟩
  · rw [← hW1, hrec, ← hD]; exact run_enterLoop_outer _ _ _ _ _
  · simp only [resolve, hg]
    simp [go_sem]
  · intro f' hf'; simp [Target.leads] at hf'; subst hf'; exact hFg
  · simp [invoke, go_sem, eg]
  · refine (hseq (D + 1)
      (fun pre W => I pre W ∧ W.heap[D + 1]? = some (.loop (rec .ready none)) ∧ W.heap[D]? = some (.deferred (some [])))
      (fun pre W => ∃ c, Ix c pre W ∧ W.heap[D + 1]? = some (.loop (rec .done (some c))) ∧ W.heap[D]? = some (.deferred (some [])))
      W1 hb1 (by rw [← hW1]; simp)
      (fun pre A B hs hst => by
        have hz2 := (Array.getElem?_eq_some_iff.1 hs.2.1).1
        have hr := hSo A B hst (by omega)
        rw [hD] at hr
        exact ⟨hIS pre A B hs.1 hst, hr.2.trans hs.2.1, hr.1.trans hs.2.2⟩)
      ?_ ⟨hI1, hL1, hK1⟩).mono ?_
    · rintro pre x W hpf ⟨hi, hl, hk⟩
      have hlt : D + 1 < W.heap.size := (Array.getElem?_eq_some_iff.1 hl).1
      have hy := run_yield (P := P) (args := encs x) hl (by rw [hrec]; exact hps x)
      rw [hrec] at hy
      refine ⟨fn, _, assign, body, hy, roundIn_of_wpIn hfn (hassign _ x W _ ⟨_, run_beginRound hl (by rw [hrec]), ?_⟩)⟩
      obtain ⟨W2, hW2⟩ : ∃ W2, W.putObj (D + 1) (.loop { rec .ready none with state := .busy }) = W2 := ⟨_, rfl⟩
      have hl2 : W2.heap[D + 1]? = some (.loop { rec .ready none with state := .busy }) := by rw [← hW2]; exact World.putObj_heap_same hlt
      have hk2 : W2.heap[D]? = some (.deferred (some [])) := by rw [← hW2]; exact (World.putObj_heap_other (by omega)).trans hk
      have hw2 : Kp W W2 := by rw [← hW2]; exact hKb _ _ _ _ (by omega) hl
      have hi2 : I pre W2 := by rw [← hW2]; exact hI.putObj _ hi (by omega) hl rfl
      rw [hW2]
      refine wpIn_mono (hbody _ pre x _ hpf (by have := (Array.getElem?_eq_some_iff.1 hl2).1; omega) hi2) ?_
      have fin : ∀ (jump : Option Code) (W3 : World), Rec2 w.heap.size W2 W3 →
          (Instr.endRound (D + 1) jump).run P W3 = .ok (.bool jump.isNone) (W3.putObj (D + 1) (.loop (rec (if jump.isNone then .ready else .done) jump))) ∧
          W3.heap[D + 1]? = some (.loop { rec .ready none with state := .busy }) ∧
          (W3.putObj (D + 1) (.loop (rec (if jump.isNone then .ready else .done) jump))).heap[D + 1]? = some (.loop (rec (if jump.isNone then .ready else .done) jump)) ∧
          (W3.putObj (D + 1) (.loop (rec (if jump.isNone then .ready else .done) jump))).heap[D]? = some (.deferred (some [])) := fun jump W3 hk3 => by
        rw [hD] at hk3
        have hl3 := hk3.2.trans hl2
        have := run_endRound (P := P) jump hl3
        rw [hrec] at this ⊢
        exact ⟨this, by rw [hrec] at hl3; exact hl3, World.putObj_heap_same (Array.getElem?_eq_some_iff.1 hl3).1, (World.putObj_heap_other (by omega)).trans (hk3.1.trans hk2)⟩
      rintro e a3 W3 hp
      cases e with
      | normal =>
        obtain ⟨hk3, hkp3, hi3⟩ := hp
        obtain ⟨hr, hl3, hl4, hk4⟩ := fin none W3 hk3
        exact ⟨_, _, hr, .inl ⟨rfl, ⟨hI.putObj _ hi3 (by omega) hl3 rfl, hl4, hk4⟩, hKt (hKt hw2 hkp3) (hKb _ _ _ _ (by omega) hl3)⟩⟩
      | ret =>
        obtain ⟨hk3, hi3⟩ := hp
        obtain ⟨hr, hl3, hl4, hk4⟩ := fin (some .ret) W3 hk3
        exact ⟨_, _, hr, .inr ⟨rfl, .ret, (hIx _).putObj _ hi3 (by omega) hl3 rfl, hl4, hk4⟩⟩
      | exit id =>
        obtain ⟨hk3, hi3⟩ := hp
        obtain ⟨hr, hl3, hl4, hk4⟩ := fin (some (.exit id)) W3 hk3
        exact ⟨_, _, hr, .inr ⟨rfl, .exit id, (hIx _).putObj _ hi3 (by omega) hl3 rfl, hl4, hk4⟩⟩
      | goto t =>
        obtain ⟨hk3, hi3⟩ := hp
        obtain ⟨hr, hl3, hl4, hk4⟩ := fin (some (.goto t)) W3 hk3
        exact ⟨_, _, hr, .inr ⟨rfl, .goto t, (hIx _).putObj _ hi3 (by omega) hl3 rfl, hl4, hk4⟩⟩
      | panic ch => exact hp.elim
      | outgrown => exact hp.elim
    · rintro e W2 ⟨⟨v, rfl⟩, (⟨xs, hS, hi, hl, hk⟩ | ⟨pre, hSp, c, hi, hl, hk⟩)⟩
      · exact ⟨none, _, by have := run_endLoop (P := P) hl (by rw [hrec]; simp); rw [hrec] at this; exact this, hdone _ xs _ (by omega) hS (hI.putObj _ hi (by omega) hl rfl) ((World.putObj_heap_other (by omega)).trans hk)⟩
      · exact ⟨some c, _, by have := run_endLoop (P := P) hl (by rw [hrec]; simp); rw [hrec] at this; exact this, hstop _ c pre _ (by omega) hSp ((hIx c).putObj _ hi (by omega) hl rfl) ((World.putObj_heap_other (by omega)).trans hk)⟩
end Go.Proofs.YtiphbincnnppdaaGreatDoor

namespace Go.Proofs.YtiphbincnnppdaaGreatDoor
open Go.RowKit Go.Maps

section
variable {F : Fence} {n' : Nat} {P : Program} {w : World}
theorem wpListIn_append_que {base size : Nat} {ops : Array Oper} {rest : List Oper} {o : Oper} {a : Act} {Q : Exit → Act → World → Prop} (hgd : o.guard = none) (s x : Operand) (t : TypeId)
    (ho : o.op = .call { callee := .builtin .append, args := #[s, x], argTypes := #[t, t] })
    (e : TypeId) (i : TypeInfo) (z : Value) (bytes : Nat) (ht : P.underlying t = some (.slice e)) (hi : P.info? e = some i) (hz : i.zero = some z)
    (hsize : i.size = size) (hby : i.bytes = bytes) (hzs : z.cells.size = size) (hsz : 0 < size)
    (A : Option Addr) (n c : Nat) (xs : List Value) (hs : a.eval s = .slice A n c) (hown : Que w base e size A n c xs)
    (B : Nat) (A' : Option Addr) (m c' : Nat) (ys : List Value) (hx : a.eval x = .slice A' m c') (hsl : Sl w B size A' m ys) (h1 : ∀ u ∈ ys, u.oneCell' = true) (hm : 0 < m)
    (h63 : n + m ≤ maxLen) (hbytes : (n + m) * bytes ≤ 140737488355328) (hbase : base ≤ w.heap.size)
    (h : ∀ A2 c2 w' row, Que w' base e size A2 (n + m) c2 (xs ++ ys) → w.grownBy w' row → (∀ g, row = some g → base ≤ g ∧ (∃ cur, w.heap[g]? = some (.cells cur e (0, 0))) ∧ c ≠ 0 ∧ ∃ off, A = some ⟨g, off, none⟩) → (∀ g off, A2 = some ⟨g, off, none⟩ → (c ≠ 0 ∧ ∃ off, A = some ⟨g, off, none⟩) ∨ w.heap.size ≤ g) → wpListIn F n' P ops Q rest (a.put o.dst (.slice A2 (n + m) c2)) w') : wpListIn F n' P ops Q (o :: rest) a w := by
  refine wpListIn_plain hgd fun K hK => ?_
  obtain ⟨A2, c2, w', row, hr, h2, h3, h4, h5⟩ := run_append_que (P := P) t o.type i z bytes ht hi hz hsize hby hzs hsz hown (c' := c') hsl h1 hm h63 hbytes hbase
  unfold Oper.wpIn
  refine ⟨?_, ?_⟩
  · simp [Oper.about, ho, resolve, Target.leads, Sem.run_pure]
  · rw [Oper.semAt_plain F _ _ (by rw [ho]; intro c hc'; cases hc')]
    simp [execOp, ho, resolve, invoke, builtin, hs, hx, hr, Result.andThen]
    exact hK _ _ (h A2 c2 w' row h2 h3 h4 h5)
theorem wpListIn_append_sl {base size : Nat} {ops : Array Oper} {rest : List Oper} {o : Oper} {a : Act} {Q : Exit → Act → World → Prop} (hgd : o.guard = none) (s x : Operand) (t : TypeId)
    (ho : o.op = .call { callee := .builtin .append, args := #[s, x], argTypes := #[t, t] })
    (e : TypeId) (i : TypeInfo) (z : Value) (bytes : Nat) (ht : P.underlying t = some (.slice e)) (hi : P.info? e = some i) (hz : i.zero = some z)
    (hsize : i.size = size) (hby : i.bytes = bytes) (hzs : z.cells.size = size) (hsz : 0 < size)
    (v : Value) (n : Nat) (xs : List Value) (hs : a.eval s = v) (hown : w.ownsRow base e size v n xs)
    (B : Nat) (A : Option Addr) (m c : Nat) (ys : List Value) (hx : a.eval x = .slice A m c) (hsl : Sl w B size A m ys) (h1 : ∀ u ∈ ys, u.oneCell' = true)
    (h63 : n + m ≤ maxLen) (hbytes : (n + m) * bytes ≤ 140737488355328) (hbase : base ≤ w.heap.size)
    (h : ∀ A' c' w', w'.ownsRow base e size (.slice A' (n + m) c') (n + m) (xs ++ ys) → w.grownBy w' v.ownBlock → n + m ≤ c' → c' ≤ maxLen → wpListIn F n' P ops Q rest (a.put o.dst (.slice A' (n + m) c')) w') : wpListIn F n' P ops Q (o :: rest) a w := by
  refine wpListIn_plain hgd fun K hK => ?_
  obtain ⟨A', c', w', hr, ho', hg, hc1, hc2⟩ := run_append_sl (P := P) t o.type i z bytes ht hi hz hsize hby hzs hsz hown (c := c) hsl h1 h63 hbytes hbase
  unfold Oper.wpIn
  refine ⟨?_, ?_⟩
  · simp [Oper.about, ho, resolve, Target.leads, Sem.run_pure]
  · rw [Oper.semAt_plain F _ _ (by rw [ho]; intro c hc'; cases hc')]
    simp [execOp, ho, resolve, invoke, builtin, hs, hx, hr, Result.andThen]
    exact hK _ _ (h A' c' w' ho' hg hc1 hc2)
theorem wpListIn_put_rm {ops : Array Oper} {rest : List Oper} {o : Oper} {a : Act} {Q : Exit → Act → World → Prop} (hgd : o.guard = none) (m x y : Operand) (t : TypeId) (hop : o.op = Op.mapUpdate t m x y)
    (k e : TypeId) (hk : P.underlying k = some .string) (ht : P.underlying t = some (.map k e)) (b N : Nat) (g : ByteArray → Option Value) (hm : a.eval m = .map (some b)) (h : Rm w P k b N g) (hn : N < maxLen)
    (s : ByteArray) (hs : s.size ≤ maxLen) (v : Value) (hx : a.eval x = .string s) (hy : a.eval y = v)
    (hK : ∀ w', Rm w' P k b (N + 1) (upd g s v) → w.grownBy w' (some b) → wpListIn F n' P ops Q rest (a.put o.dst undef) w') : wpListIn F n' P ops Q (o :: rest) a w := by
  refine wpListIn_plain hgd fun K' hK' => ?_
  obtain ⟨w', hrun, r1, r2⟩ := h.put hk ht hn hs v
  unfold Oper.wpIn
  refine ⟨?_, ?_⟩
  · simp [Oper.about, hop]
  · rw [Oper.semAt_plain F _ _ (by rw [hop]; intro c hc'; cases hc')]
    simp [execOp, hop, hm, hx, hy, hrun, Result.andThen]
    exact hK' _ _ (hK w' r1 r2)
end

/-- A block that holds structs of type e. -/
def isRow (e : TypeId) : Option Obj → Prop
  | some (.cells _ t _) => t = e
  | _ => False
/-- What a round keeps: block bm, the blocks that hold structs of type e, and those that Kf names. -/
structure KeepR (bm : Nat) (e : TypeId) (Kf : Nat → Prop) (A B : World) : Prop where
  size : A.heap.size ≤ B.heap.size
  block : ∀ k, k < A.heap.size → (k = bm ∨ isRow e A.heap[k]? ∨ Kf k) → B.heap[k]? = A.heap[k]?
theorem KeepR.trans {bm : Nat} {e : TypeId} {Kf : Nat → Prop} {A B C : World} (h : KeepR bm e Kf A B) (g : KeepR bm e Kf B C) : KeepR bm e Kf A C :=
  ⟨Nat.le_trans h.size g.size, fun k hk hc => by
    have h1 := h.block k hk hc
    rw [← h1] at hc ⊢
    exact g.block k (Nat.lt_of_lt_of_le hk h.size) hc⟩
/-- What the iterator does between two rounds: only block bm, and behind it blocks that hold structs of type e, turn; new ones may come. -/
structure StepR (bm : Nat) (e : TypeId) (A B : World) : Prop where
  os : B.os = A.os
  tape : B.tape = A.tape
  output : B.output = A.output
  size : A.heap.size ≤ B.heap.size
  block : ∀ k, k < A.heap.size → (k < bm ∨ (k ≠ bm ∧ ¬ isRow e A.heap[k]?)) → B.heap[k]? = A.heap[k]?
theorem StepR.of_grown {bm : Nat} {e : TypeId} {A B : World} {row : Option Nat} (hg : A.grownBy B row) (hr : ∀ g, row = some g → g = bm ∨ (bm < g ∧ isRow e A.heap[g]?)) : StepR bm e A B :=
  ⟨hg.os, hg.tape, hg.output, hg.size, fun k hk h1 => hg.block k hk (fun e' => by
    rcases hr k e'.symm with h | ⟨h, h2⟩
    · rcases h1 with h1 | ⟨h1, _⟩
      · omega
      · exact h1 h
    · rcases h1 with h1 | ⟨_, h1⟩
      · omega
      · exact h1 h2)⟩
theorem StepR.alloc {bm : Nat} {e : TypeId} (A : World) (o : Obj) : StepR bm e A (A.alloc o) := StepR.of_grown (World.grownBy_alloc A o none) (fun g h => by cases h)
/-- What the search reads: the boxes bs and bx of its two variables, the map bn with its rows; all but the boxes lie below hi. -/
structure NxR (W : World) (P : Program) (k m : TypeId) (hi bs bx bn N : Nat) (start : ByteArray) (gn : ByteArray → Option Value) (Ln : ByteArray → List ByteArray) : Prop where
  s : W.heap[bs]? = some (.cells #[.string start] k (0, 0))
  x : W.heap[bx]? = some (.cells #[.map (some bn)] m (0, 0))
  lt : bn < hi
  map : Rm W P k bn N gn
  rows : ∀ s, ∃ A c, (gn s).getD (.slice none 0 0) = .slice A (Ln s).length c ∧ Sl W hi 1 A (Ln s).length (strs (Ln s)) ∧ (Ln s).length ≤ c ∧ c ≤ maxLen
theorem Rm.block {w w' : World} {P : Program} {k : TypeId} {b N : Nat} {g : ByteArray → Option Value} (h : Rm w P k b N g) (hb : w'.heap[b]? = w.heap[b]?) : Rm w' P k b N g := by
  obtain ⟨D, ⟨es, clock, h1, h2⟩, h3⟩ := h
  exact ⟨D, ⟨es, clock, hb.trans h1, h2⟩, h3⟩
theorem NxR.keep {W W' : World} {P : Program} {k m : TypeId} {hi bs bx bn N : Nat} {start : ByteArray} {gn : ByteArray → Option Value} {Ln : ByteArray → List ByteArray} (h : NxR W P k m hi bs bx bn N start gn Ln)
    (hk : ∀ j, (j < hi ∨ j = bs ∨ j = bx) → W'.heap[j]? = W.heap[j]?) : NxR W' P k m hi bs bx bn N start gn Ln :=
  ⟨(hk bs (by simp)).trans h.s, (hk bx (by simp)).trans h.x, h.lt, h.map.block (hk bn (.inl h.lt)), fun s => by
    obtain ⟨A, c, h1, h2, h3⟩ := h.rows s
    exact ⟨A, c, h1, h2.keep fun p hp => World.cell?_of_block (hk p.block (.inl hp)), h3⟩⟩
theorem NxR.step {W W' : World} {P : Program} {k m e : TypeId} {hi bs bx bn N bm : Nat} {start : ByteArray} {gn : ByteArray → Option Value} {Ln : ByteArray → List ByteArray} (h : NxR W P k m hi bs bx bn N start gn Ln)
    (hs : StepR bm e W W') (h1 : hi ≤ bm) (h2 : bs < bm) (h3 : bx < bm) (hz : bm ≤ W.heap.size) : NxR W' P k m hi bs bx bn N start gn Ln :=
  h.keep fun j hj => by
    have : j < bm := by omega
    exact hs.block j (by omega) (.inl this)
theorem NxR.round {W W' : World} {P : Program} {k m e : TypeId} {hi bs bx bn N bm : Nat} {start : ByteArray} {gn : ByteArray → Option Value} {Ln : ByteArray → List ByteArray} (h : NxR W P k m hi bs bx bn N start gn Ln)
    (hs : KeepR bm e (fun j => j < hi ∨ j = bs ∨ j = bx) W W') (h1 : hi ≤ bm) (h2 : bs < bm) (h3 : bx < bm) (hz : bm ≤ W.heap.size) : NxR W' P k m hi bs bx bn N start gn Ln :=
  h.keep fun j hj => hs.block j (by omega) (.inr (.inr hj))
end Go.Proofs.YtiphbincnnppdaaGreatDoor

namespace Go.Proofs.YtiphbincnnppdaaGreatDoor

section
variable {α : Type} {nx : α → List α} {s : α}
/-- whatever has been handed over with k + 1 steps comes from a label with k steps -/
def Par (nx : α → List α) (s : α) (pre : List (α × Nat)) : Prop := ∀ y ∈ pre, ∃ p, y.1 ∈ nx p.1 ∧ y.2 = p.2 + 1 ∧ (p = (s, 0) ∨ p ∈ pre)
def Few (pre : List (α × Nat)) : Prop := ∀ y ∈ pre, y.2 ≤ pre.length
structure Bfs (nx : α → List α) (s : α) (pre todo : List (α × Nat)) : Prop where
  srch : Srch nx s (pre.map Prod.fst) (todo.map Prod.fst)
  par : Par nx s pre
  few : Few pre
  que : ∀ x ∈ todo, x = (s, 0) ∨ x ∈ pre
  fst : (pre = [] ∧ todo = [(s, 0)]) ∨ ((∀ y ∈ nx s, y ∈ pre.map Prod.fst) ∧ ∀ x ∈ todo, x.2 ≠ 0)
structure BfsL (nx : α → List α) (s : α) (pre todo : List (α × Nat)) (p : α × Nat) (ys : List α) : Prop where
  look : Look nx s (pre.map Prod.fst) (todo.map Prod.fst) p.1 ys
  par : Par nx s pre
  few : Few pre
  que : ∀ x ∈ todo, x = (s, 0) ∨ x ∈ pre
  here : p = (s, 0) ∨ p ∈ pre
  fst : (p.1 = s) ∨ (∀ y ∈ nx s, y ∈ pre.map Prod.fst)
  pos : ∀ x ∈ todo, x.2 ≠ 0
theorem Bfs.start (nx : α → List α) (s : α) : Bfs nx s [] [(s, 0)] :=
  ⟨Srch.start nx s, (fun y h => by cases h), (fun y h => by cases h), fun x h => .inl (List.mem_singleton.1 h), .inl ⟨rfl, rfl⟩⟩
theorem Bfs.look {pre todo : List (α × Nat)} {p : α × Nat} (h : Bfs nx s pre (p :: todo)) : BfsL nx s pre todo p (nx p.1) := by
  have hl := Srch.look (todo := todo.map Prod.fst) (p := p.1) h.srch
  refine ⟨hl, h.par, h.few, fun x hx => h.que x (by simp [hx]), h.que p (by simp), ?_, ?_⟩
  · rcases h.fst with ⟨_, e⟩ | ⟨e, _⟩
    · left; simp at e; rw [e.1]
    · exact .inr e
  · rcases h.fst with ⟨_, e⟩ | ⟨_, e⟩
    · simp at e; rw [e.2]; intro x hx; cases hx
    · exact fun x hx => e x (by simp [hx])
theorem Bfs.pass {pre todo : List (α × Nat)} {p : α × Nat} (h : Bfs nx s pre (p :: todo)) (h1 : p.1 = s) (h2 : p.2 ≠ 0) : Bfs nx s pre todo := by
  rcases h.fst with ⟨_, e⟩ | ⟨e, e2⟩
  · simp at e; rw [e.1] at h2; exact absurd rfl h2
  · exact ⟨Srch.pass (p := p.1) h.srch (by rw [h1]; exact e), h.par, h.few, fun x hx => h.que x (by simp [hx]), .inr ⟨e, fun x hx => e2 x (by simp [hx])⟩⟩
theorem BfsL.skip {pre todo : List (α × Nat)} {p : α × Nat} {y : α} {ys : List α} (h : BfsL nx s pre todo p (y :: ys)) (hy : y ∈ pre.map Prod.fst) : BfsL nx s pre todo p ys :=
  ⟨h.look.skip hy, h.par, h.few, h.que, h.here, h.fst, h.pos⟩
theorem BfsL.take {pre todo : List (α × Nat)} {p : α × Nat} {y : α} {ys : List α} (h : BfsL nx s pre todo p (y :: ys)) (hy : y ∉ pre.map Prod.fst) : BfsL nx s (pre ++ [(y, p.2 + 1)]) (todo ++ [(y, p.2 + 1)]) p ys := by
  have hm : ∀ l : List (α × Nat), (l ++ [(y, p.2 + 1)]).map Prod.fst = l.map Prod.fst ++ [y] := fun l => by simp
  refine ⟨?_, ?_, ?_, ?_, ?_, ?_, ?_⟩
  · rw [hm, hm]; exact h.look.take hy
  · intro z hz
    rcases List.mem_append.1 hz with hz | hz
    · obtain ⟨q, h1, h2, h3⟩ := h.par z hz
      refine ⟨q, h1, h2, ?_⟩
      rcases h3 with h3 | h3
      · exact .inl h3
      · exact .inr (List.mem_append_left _ h3)
    · rw [List.mem_singleton.1 hz]
      refine ⟨p, h.look.sub y (by simp), rfl, ?_⟩
      rcases h.here with h3 | h3
      · exact .inl h3
      · exact .inr (List.mem_append_left _ h3)
  · intro z hz
    rw [List.length_append]
    rcases List.mem_append.1 hz with hz | hz
    · have := h.few z hz; omega
    · rw [List.mem_singleton.1 hz]
      rcases h.here with h3 | h3
      · rw [h3]; simp
      · have := h.few p h3; simp; omega
  · intro z hz
    rcases List.mem_append.1 hz with hz | hz
    · rcases h.que z hz with h3 | h3
      · exact .inl h3
      · exact .inr (List.mem_append_left _ h3)
    · exact .inr (List.mem_append_right _ hz)
  · rcases h.here with h3 | h3
    · exact .inl h3
    · exact .inr (List.mem_append_left _ h3)
  · rcases h.fst with h3 | h3
    · exact .inl h3
    · exact .inr fun z hz => by rw [hm]; exact List.mem_append_left _ (h3 z hz)
  · intro z hz
    rcases List.mem_append.1 hz with hz | hz
    · exact h.pos z hz
    · rw [List.mem_singleton.1 hz]; simp
theorem BfsL.close {pre todo : List (α × Nat)} {p : α × Nat} (h : BfsL nx s pre todo p []) : Bfs nx s pre todo := by
  refine ⟨h.look.close, h.par, h.few, h.que, .inr ⟨?_, h.pos⟩⟩
  rcases h.fst with h3 | h3
  · intro y hy
    exact (h.look.part y (by rw [h3]; exact hy)).resolve_right (by simp)
  · exact h3
/-- what is known whenever the search stops -/
structure Got (nx : α → List α) (s : α) (pre : List (α × Nat)) : Prop where
  nodup : (pre.map Prod.fst).Nodup
  sound : ∀ x ∈ pre.map Prod.fst, Rch nx s x
  par : Par nx s pre
  few : Few pre
theorem Bfs.got {pre todo : List (α × Nat)} (h : Bfs nx s pre todo) : Got nx s pre := ⟨h.srch.nodup, h.srch.sound, h.par, h.few⟩
theorem BfsL.got {pre todo : List (α × Nat)} {p : α × Nat} {ys : List α} (h : BfsL nx s pre todo p ys) : Got nx s pre := ⟨h.look.nodup, h.look.sound, h.par, h.few⟩
theorem nodup_len : ∀ (l u : List α), l.Nodup → (∀ x ∈ l, x ∈ u) → l.length ≤ u.length
  | [], _, _, _ => Nat.zero_le _
  | x :: l, u, hn, hs => by
    obtain ⟨a, b, e⟩ := List.append_of_mem (hs x (by simp))
    subst e
    rw [List.nodup_cons] at hn
    have := nodup_len l (a ++ b) hn.2 (fun y hy => by
      have h := hs y (by simp [hy])
      rcases List.mem_append.1 h with h | h
      · exact List.mem_append_left _ h
      · rcases List.mem_cons.1 h with h | h
        · subst h; exact absurd hy hn.1
        · exact List.mem_append_right _ h)
    simp only [List.length_append, List.length_cons] at this ⊢
    omega
theorem Rch.mem {u : List α} (hu : ∀ x, ∀ y ∈ nx x, y ∈ u) {a b : α} (h : Rch nx a b) : b ∈ u := by
  obtain ⟨n, hn⟩ := h; exact hn.mem hu
theorem Got.len {pre : List (α × Nat)} {u : List α} (h : Got nx s pre) (hu : ∀ x, ∀ y ∈ nx x, y ∈ u) : pre.length ≤ u.length := by
  have := nodup_len _ u h.nodup (fun x hx => (h.sound x hx).mem hu)
  rwa [List.length_map] at this
theorem Bfs.end_ {pre : List (α × Nat)} (h : Bfs nx s pre []) (x : α) : x ∈ pre.map Prod.fst ↔ Rch nx s x := h.srch.end_ x
end
end Go.Proofs.YtiphbincnnppdaaGreatDoor

namespace Go.Proofs.YtiphbincnnppdaaGreatDoor
open Go.RowKit

section
variable {F : Fence} {n : Nat} {P : Program} {b : Frame} {a : Act} {k : List Item} {cs : List Frame} {w : World} {Q : Exit → Act → World → Prop}
theorem stepR_scope {c : Code} : step P (lone (b.atR a (.code (.scope c) :: k)) cs w) = .next (lone (b.atR a (.code c :: .inScope c :: k)) cs w) :=
  step_lone_go (by simp [stepG, stepG.exec, Frame.atR])
theorem stepR_inScope {c : Code} : step P (lone (b.atR a (.inScope c :: k)) cs w) = .next (lone (b.atR a k) cs w) :=
  step_lone_go (by simp [stepG, stepG.exec, Frame.atR])
theorem wpIn_scope_straight {c : Code} (h : c.wpIn F n P (Exit.noGoto Q) a w) : (Code.scope c).wpIn F n P Q a w := by
  intro b k cs hro hb hr
  have h0 : (lone (b.atR a (.code (.scope c) :: k)) cs w).fenced P F := fenced_calm hb hr rfl
  obtain ⟨e, a₁, w₁, hq, harr⟩ := h b (.inScope c :: k) cs hro hb hr
  cases e with
  | normal => exact ⟨.normal, a₁, w₁, hq, .head h0 stepR_scope (StepsIn.trans harr (.one (fenced_calm hb hr rfl) stepR_inScope))⟩
  | exit id =>
    have hx : exitTo id (.inScope c :: k) = exitTo id k := by simp [exitTo]
    exact ⟨.exit id, a₁, w₁, hq, fun k' hk => .head h0 stepR_scope (harr.1 k' (by rw [hx]; exact hk)),
      fun hr' hk => let ⟨k₁, h1, h2⟩ := harr.2 hr' (by rw [hx]; exact hk); ⟨k₁, h1, .head h0 stepR_scope h2⟩⟩
  | goto l => exact hq.elim
  | ret => exact ⟨_, a₁, w₁, hq, .of_steps (.one h0 stepR_scope) harr⟩
  | panic ch => exact ⟨_, a₁, w₁, hq, .of_steps (.one h0 stepR_scope) harr⟩
  | outgrown => exact ⟨_, a₁, w₁, hq, .of_steps (.one h0 stepR_scope) harr⟩
end
end Go.Proofs.YtiphbincnnppdaaGreatDoor

namespace Go.Proofs.YtiphbincnnppdaaGreatDoor
open Go.RowKit Go.Maps



def idxG (ts : List Tg) : ByteArray → Option Value := fun s => (findT ts s).map tgV
theorem idxG_skip {ts : List Tg} {t : Tg} (h : isT ts t.lab = true) : idxG (ts ++ [t]) = idxG ts := by
  funext s
  unfold idxG
  rw [findT_snoc]
  cases hf : findT ts s with
  | some x => rfl
  | none =>
    by_cases e : t.lab = s
    · subst e; unfold isT at h; rw [hf] at h; cases h
    · simp [e]
theorem idxG_put {ts : List Tg} {t : Tg} (h : isT ts t.lab = false) : idxG (ts ++ [t]) = upd (idxG ts) t.lab (tgV t) := by
  funext s
  unfold idxG upd
  rw [findT_snoc]
  by_cases e : s = t.lab
  · subst e
    unfold isT at h
    cases hf : findT ts t.lab with
    | some x => rw [hf] at h; cases h
    | none => simp
  · cases hf : findT ts s with
    | some x => simp [e, hf]
    | none => simp [e, hf, Ne.symm e]
theorem idxG_some (ts : List Tg) (s : ByteArray) : (idxG ts s).isSome = isT ts s := by
  unfold idxG isT; simp
theorem Sl.tg {w : World} {B n k : Nat} {A : Option Addr} {ts : List Tg} (h : Sl w B 4 A n (flat tgC ts)) (hk : k < n) :
    ∃ b off t, A = some ⟨b, off, none⟩ ∧ b < B ∧ ts[k]? = some t ∧ w.cell? ⟨b, off + k * 4, none⟩ = some (.string t.lab) ∧ w.cell? ⟨b, off + k * 4 + 1, none⟩ = some (.int .i64 t.kind) ∧ w.cell? ⟨b, off + k * 4 + 2, none⟩ = some (.slice t.dA t.dn t.dc) ∧ w.cell? ⟨b, off + k * 4 + 3, none⟩ = some (.slice t.vA t.vn t.vc) := by
  obtain ⟨b, off, t, e, hb, ht, hc⟩ := h.at_ tgC_len (by omega) hk
  exact ⟨b, off, t, e, hb, ht, hc 0 _ rfl, hc 1 _ rfl, hc 2 _ rfl, hc 3 _ rfl⟩
def zeroT : Value := .agg #[.string ⟨#[]⟩, .int .i64 0, .slice none 0 0, .slice none 0 0]

set_option maxRecDepth 100000 in
set_option maxHeartbeats 2000000 in
theorem index_any (A : Option Addr) (n c B : Nat) (ts : List Tg) (w : World) (h0 : Sl w B 4 A n (flat tgC ts)) (hB : B ≤ w.heap.size) (hn : n ≤ 1000000) (hls : ∀ t ∈ ts, t.lab.size ≤ maxLen) :
    Calls Tryz.prog 92 #[.slice A n c] w fun e w' => e = .returned (.map (some w.heap.size)) ∧ Rm w' Tryz.prog 9 w.heap.size n (idxG ts) ∧ Below w.heap.size w w' := by
  have HL := Lib.hid (h0.len tgC_len (by omega))
  have H0 := Lib.hid h0; have HLS := Lib.hid hls
  clear h0 hls
  have hmm := @run_makeMap Tryz.prog
  have HM0 : Hid (Rm (w.alloc (.map #[] 0)) Tryz.prog 9 w.heap.size 0 (idxG (ts.take 0))) := Rm.made w Tryz.prog 9
  have HB0 : Hid (Below w.heap.size w (w.alloc (.map #[] 0))) := (Below.refl _ w).alloc (Nat.le_refl _) _
  go_enter Tryz.func92, Tryz.ntmps92
  go_wp2
  go_loopw [11] (fun i wr => ∃ k : Nat, k ≤ n ∧ i = .int .i64 k ∧ Hid (Rm wr Tryz.prog 9 w.heap.size k (idxG (ts.take k))) ∧ Hid (Below w.heap.size w wr) ∧ w.heap.size < wr.heap.size) (fun i _ => n - (intOf i).toNat)
  case atStart => exact ⟨0, Nat.zero_le _, rfl, HM0.out, HB0.out, by simp⟩
  case round =>
    obtain ⟨k, hk, rfl, hM, hBel, hwz⟩ := hrel
    by_cases hlt : k < n
    · obtain ⟨b, off, t, rfl, hbB, ht, y0, y1, y2, y3⟩ := (H0.out.below hBel.out hB).tg hlt
      have HTK := Lib.hid (take_snoc ht)
      have HTS := Lib.hid (HLS.out t (List.mem_of_getElem? ht))
      have hlz : (k : Int) < (n : Int) := by omega
      obtain ⟨lab, kind, dA, dn, dc, deps, vA, vn, vc, vis⟩ := t
      simp only at y0 y1 y2 y3 HTS
      have hlk := (hM.out.alloc (.cells #[.string lab, .int .i64 kind, .slice dA dn dc, .slice vA vn vc] 60)).look_ok Tryz.underlying9 Tryz.underlying132 (Tryz.zeroValue60 _) HTS.out
      clear ht
      rw [idxG_some] at hlk
      have HK0 := Lib.hid (hM.out.alloc (.cells #[.string lab, .int .i64 kind, .slice dA dn dc, .slice vA vn vc] 60))
      have hk0 : Bk (wr.alloc (.cells #[.string lab, .int .i64 kind, .slice dA dn dc, .slice vA vn vc] 60)) wr.heap.size 60 #[.string lab, .int .i64 kind, .slice dA dn dc, .slice vA vn vc] := Bk.new wr _ _
      cases hs : isT (ts.take k) lab with
      | true =>
        obtain ⟨x, hx⟩ : ∃ x, findT (ts.take k) lab = some x := Option.isSome_iff_exists.1 hs
        have hgx : idxG (ts.take k) lab = some (tgV x) := by unfold idxG; rw [hx]; rfl
        have HST : Hid (idxG (ts.take (k + 1)) = idxG (ts.take k)) := by show _ = _; rw [HTK.out]; exact idxG_skip hs
        rw [hgx, hs] at hlk
        obtain ⟨xlab, xkind, xdA, xdn, xdc, xdeps, xvA, xvn, xvc, xvis⟩ := x
        simp only [Option.getD_some, tgV] at hlk
        clear hx hgx hs hk0
        have HM2 := Lib.hid (HK0.out.alloc (.cells #[.string xlab, .int .i64 xkind, .slice xdA xdn xdc, .slice xvA xvn xvc] 60))
        have HB2 : Hid (Below w.heap.size w ((wr.alloc (.cells #[.string lab, .int .i64 kind, .slice dA dn dc, .slice vA vn vc] 60)).alloc (.cells #[.string xlab, .int .i64 xkind, .slice xdA xdn xdc, .slice xvA xvn xvc] 60))) := (hBel.out.alloc (by omega) _).alloc (by simp; omega) _
        go_wp2
        go_roundw
        case rel => exact ⟨k + 1, by omega, by go_num, by show Rm _ _ _ _ _ _; rw [HST.out]; exact HM2.out.more (by omega), HB2.out, by simp; omega⟩
        case measure => simp [intOf]; omega
      | false =>
        have hgx : idxG (ts.take k) lab = none := by
          unfold idxG; unfold isT at hs
          cases hf : findT (ts.take k) lab with
          | none => rfl
          | some x => rw [hf] at hs; cases hs
        have HST : Hid (idxG (ts.take (k + 1)) = upd (idxG (ts.take k)) lab (.agg #[.string lab, .int .i64 kind, .slice dA dn dc, .slice vA vn vc])) := by show _ = _; rw [HTK.out]; exact idxG_put hs
        rw [hgx, hs] at hlk
        simp only [Option.getD_none] at hlk
        clear hgx hs
        have HM2 := Lib.hid (HK0.out.alloc (.cells #[.string ⟨#[]⟩, .int .i64 0, .slice none 0 0, .slice none 0 0] 60))
        have hk2 := hk0.alloc (.cells #[.string ⟨#[]⟩, .int .i64 0, .slice none 0 0, .slice none 0 0] 60)
        have HB2 : Hid (Below w.heap.size w ((wr.alloc (.cells #[.string lab, .int .i64 kind, .slice dA dn dc, .slice vA vn vc] 60)).alloc (.cells #[.string ⟨#[]⟩, .int .i64 0, .slice none 0 0, .slice none 0 0] 60))) := (hBel.out.alloc (by omega) _).alloc (by simp; omega) _
        have u0 := hk2.cell 0; have u1 := hk2.cell 1; have u2 := hk2.cell 2; have u3 := hk2.cell 3
        simp at u0 u1 u2 u3
        clear hk0 hk2
        go_wp2_with (at_mapUpdate; refine halt_ ?_)
        refine unhalt ?_
        refine wpList_put_rm rfl _ _ _ 132 rfl 9 60 Tryz.underlying9 Tryz.underlying132 w.heap.size k _ rfl HM2.out (by unfold maxLen; omega) lab HTS.out _ rfl rfl ?_
        intro w3 hM3 hg3
        have HM3 := Lib.hid hM3
        have HB3 : Hid (Below w.heap.size w w3) := HB2.out.grown hg3 (by simp; omega) (fun k e => by cases e; omega)
        have hz3 : w.heap.size < w3.heap.size := by have := hg3.size; simp at this; omega
        clear hM3 hg3
        go_wp2
        go_roundw
        case rel => exact ⟨k + 1, by omega, by go_num, by show Rm _ _ _ _ _ _; rw [HST.out]; exact HM3.out, HB3.out, hz3⟩
        case measure => simp [intOf]; omega
    · have hlz : ¬ (k : Int) < (n : Int) := by omega
      have hM2 := hM.out
      rw [List.take_of_length_le (by rw [HL.out]; omega)] at hM2
      have HM2 := Lib.hid (hM2.more hk)
      clear hM2 hM
      go_wp2
      go_ret
      exact ⟨rfl, HM2.out, hBel.out⟩
end Go.Proofs.YtiphbincnnppdaaGreatDoor
