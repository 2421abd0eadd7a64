/-
  Lemmas: action.Inputs. action.fileName: whether a string is the name of a file of a build. action.checkOutput: why an output is not valid. action.Check: why an action is not valid. digest.Of and cordwoodref02.Of: the digest of a string. What action.Make makes, in plain Lean: the first file with each name, as long as all are there and not too long. The reference's Label. cordwoodref41.begins and Named: whether a string is the name of a file, as the reference says it.
-/
import Derived.Laws.BitsLemmas
import Derived.Test.YtiphbincnnppdaaDoorU5

namespace Go.Proofs.YtiphbincnnppdaaDoor
open Go.RowKit Go.Maps

def sourceW : ByteArray := ⟨#[115, 111, 117, 114, 99, 101, 32]⟩
def ifaceW : ByteArray := ⟨#[105, 102, 97, 99, 101, 32]⟩
def codeW : ByteArray := ⟨#[99, 111, 100, 101, 32]⟩
def programW : ByteArray := ⟨#[112, 114, 111, 103, 114, 97, 109, 32]⟩
/-- an action of this kind is not made for the target -/
def BadK (kind : Int) (t : Tg) : Prop := kind ≠ 1 ∧ ((kind ≠ 2 ∧ kind ≠ 3) ∨ t.kind = 1)
/-- the names that an action reads -/
def InpMem (ts : List Tg) (t : Tg) (lab : ByteArray) (kind : Int) (x : ByteArray) : Prop :=
  (kind = 1 ∧ (x = sourceW ++ lab ∨ ∃ d ∈ t.deps, x = ifaceW ++ d)) ∨ (kind = 2 ∧ (x = codeW ++ lab ∨ ∃ d, Rch (nxT ts) lab d ∧ x = codeW ++ d)) ∨ (kind = 3 ∧ x = programW ++ lab)
def InpR (ts : List Tg) (lab : ByteArray) (kind : Int) (l : List ByteArray) (err : Int) : Prop :=
  (¬ Vld ts ∧ l = [] ∧ err = 1) ∨ (Vld ts ∧ isT ts lab = false ∧ l = [] ∧ err = 8) ∨
    (Vld ts ∧ ∃ t, findT ts lab = some t ∧ ((BadK kind t ∧ l = [] ∧ err = 9) ∨ (¬ BadK kind t ∧ err = 0 ∧ Asc l ∧ ∀ x, x ∈ l ↔ InpMem ts t lab kind x)))
theorem InpR.same {ts : List Tg} {lab : ByteArray} {kind : Int} {l m : List ByteArray} {e f : Int} (h : InpR ts lab kind l e) (g : InpR ts lab kind m f) : l = m ∧ e = f := by
  rcases h with ⟨h1, rfl, rfl⟩ | ⟨h1, h2, rfl, rfl⟩ | ⟨h1, t, h2, h3⟩
  · rcases g with ⟨_, rfl, rfl⟩ | ⟨g1, _⟩ | ⟨g1, _⟩
    · exact ⟨rfl, rfl⟩
    · exact absurd g1 h1
    · exact absurd g1 h1
  · rcases g with ⟨g1, _⟩ | ⟨_, _, rfl, rfl⟩ | ⟨_, t, g2, _⟩
    · exact absurd h1 g1
    · exact ⟨rfl, rfl⟩
    · unfold isT at h2; rw [g2] at h2; cases h2
  · rcases g with ⟨g1, _⟩ | ⟨_, g2, _⟩ | ⟨_, t', g2, g3⟩
    · exact absurd h1 g1
    · unfold isT at g2; rw [h2] at g2; cases g2
    · rw [h2] at g2; cases g2
      rcases h3 with ⟨h3, rfl, rfl⟩ | ⟨h3, rfl, h4, h5⟩
      · rcases g3 with ⟨_, rfl, rfl⟩ | ⟨g3, _⟩
        · exact ⟨rfl, rfl⟩
        · exact absurd h3 g3
      · rcases g3 with ⟨g3, _⟩ | ⟨_, rfl, g4, g5⟩
        · exact absurd g3 h3
        · exact ⟨asc_ext h4 g4 fun x => (h5 x).trans (g5 x).symm, rfl⟩
def InpEnd (ts : List Tg) (lab : ByteArray) (kind : Int) (w : World) (e : Ending) (w' : World) : Prop :=
  ∃ A n c l err, e = .returned (.tuple #[.slice A n c, .int .i64 err]) ∧ Sl w' w'.heap.size 1 A n (strs l) ∧ n ≤ c ∧ c ≤ maxLen ∧ Below w.heap.size w w' ∧ InpR ts lab kind l err
theorem InpEnd.none_ {ts : List Tg} {lab : ByteArray} {kind : Int} {w w' : World} {err : Int} (h : InpR ts lab kind [] err) (hb : Below w.heap.size w w') : InpEnd ts lab kind w (.returned (.tuple #[.slice none 0 0, .int .i64 err])) w' :=
  ⟨none, 0, 0, [], err, rfl, Sl.nil _ _ _ _, Nat.le_refl _, Nat.zero_le _, hb, h⟩
theorem vld_uniq {ts : List Tg} (h : Vld ts) {j k : Nat} {t : Tg} (hj : ts[j]? = some t) (hk : ts[k]? = some t) : j = k := by
  have h1 := List.getElem?_eq_some_iff.1 hj
  have h2 := List.getElem?_eq_some_iff.1 hk
  refine (List.getElem_inj (h₀ := by simpa using h1.1) (h₁ := by simpa using h2.1) h.asc.nodup).1 ?_
  simp [h1.2, h2.2]
theorem vld_size {ts : List Tg} (h : Vld ts) {x : ByteArray} (hx : isT ts x = true) : x.size ≤ 90 := by
  obtain ⟨t, ht, rfl⟩ := List.mem_map.1 ((isT_iff ts x).1 hx)
  have h1 := (h.all t ht).lab
  unfold labB labL at h1
  simp only [Bool.and_eq_true, decide_eq_true_eq] at h1
  have h2 := size_len t.lab
  have h3 : (bl t.lab).length = t.lab.data.toList.length := rfl
  omega
theorem kindOf_isT {ts : List Tg} {d : ByteArray} (h : kindOf ts d = 1) : isT ts d = true := by
  unfold kindOf at h; unfold isT
  cases hf : findT ts d with
  | none => rw [hf] at h; cases h
  | some t => rfl
theorem app_inj {p a b : ByteArray} (h : p ++ a = p ++ b) : a = b := by
  have h1 := congrArg (fun x : ByteArray => x.data.toList) h
  simp at h1
  cases a; cases b; simp at h1; simp [h1]

theorem nodup_map_of {α β : Type} {f : α → β} : ∀ {l : List α}, l.Nodup → (∀ a b, f a = f b → a = b) → (l.map f).Nodup
  | [], _, _ => by simp
  | a :: l, h, hf => by
    have h1 := List.nodup_cons.1 h
    refine List.nodup_cons.2 ⟨fun hm => ?_, nodup_map_of h1.2 hf⟩
    obtain ⟨b, hb, e⟩ := List.mem_map.1 hm
    exact h1.1 (hf _ _ e ▸ hb)
theorem source_iface (a b : ByteArray) : sourceW ++ a ≠ ifaceW ++ b := fun h => by
  have h1 := congrArg (fun x : ByteArray => x.data.toList) h
  simp [sourceW, ifaceW] at h1
theorem inp_nodup1 {deps : List ByteArray} {lab : ByteArray} (h : deps.Nodup) : ((sourceW ++ lab) :: deps.map (ifaceW ++ ·)).Nodup := by
  refine List.nodup_cons.2 ⟨fun hm => ?_, nodup_map_of h (fun a b e => app_inj e)⟩
  obtain ⟨d, _, e⟩ := List.mem_map.1 hm
  exact source_iface _ _ e.symm
theorem inp_nodup2 {all : List ByteArray} {lab : ByteArray} (h : all.Nodup) (hl : lab ∉ all) : ((codeW ++ lab) :: all.map (codeW ++ ·)).Nodup := by
  refine List.nodup_cons.2 ⟨fun hm => ?_, nodup_map_of h (fun a b e => app_inj e)⟩
  obtain ⟨d, hd, e⟩ := List.mem_map.1 hm
  exact hl (app_inj e ▸ hd)
theorem notBad2 {l : ByteArray} {dA vA : Option Addr} {dn dc vn vc : Nat} {deps vis : List ByteArray} : ¬ BadK 2 ⟨l, 2, dA, dn, dc, deps, vA, vn, vc, vis⟩ := fun h => by
  rcases h.2 with h | h
  · exact h.1 rfl
  · cases h
theorem notBad3 {l : ByteArray} {dA vA : Option Addr} {dn dc vn vc : Nat} {deps vis : List ByteArray} : ¬ BadK 3 ⟨l, 2, dA, dn, dc, deps, vA, vn, vc, vis⟩ := fun h => by
  rcases h.2 with h | h
  · exact h.2 rfl
  · cases h
theorem strs_snoc (l : List ByteArray) (x : ByteArray) : strs (l ++ [x]) = strs l ++ [.string x] := by simp [strs]
theorem map_take_snoc {l : List ByteArray} {j : Nat} {x : ByteArray} (f : ByteArray → ByteArray) (a : ByteArray) (h : l[j]? = some x) : (a :: (l.take (j + 1)).map f) = (a :: (l.take j).map f) ++ [f x] := by rw [take_snoc h]; simp

def inpPhi (vals : List Value) (base : Nat) (i : Nat) (v : Value) (W : World) : Prop :=
  if i = 8 then ∃ b0, v = .pointer (some ⟨b0, 0, none⟩) ∧ base ≤ b0 ∧ Bk W b0 35 #[.string ⟨#[]⟩, .int .i64 0, .slice none 0 0, .slice none 0 0] else vPhi vals i v W
theorem inpPhi_keep {vals : List Value} {base : Nat} (i : Nat) (v : Value) (W W' : World) (h : inpPhi vals base i v W) (hb : Below W.heap.size W W') : inpPhi vals base i v W' := by
  unfold inpPhi at h ⊢
  by_cases e : i = 8
  · rw [if_pos e] at h ⊢
    obtain ⟨b0, h1, h2, h3⟩ := h
    exact ⟨b0, h1, h2, h3.below hb h3.lt⟩
  · rw [if_neg e] at h ⊢; exact h

set_option maxRecDepth 100000 in
set_option maxHeartbeats 4000000 in
theorem inputs_any (A : Option Addr) (n c B : Nat) (ts : List Tg) (lab : ByteArray) (kd : Int) (w : World) (h0 : Sl w B 4 A n (flat tgC ts)) (hok : ∀ t ∈ ts, TgOk w B t) (hB : B ≤ w.heap.size) (hnc : n ≤ c) (hcm : c ≤ maxLen) (hls : lab.size ≤ maxLen) :
    Calls Tryd.prog 9 #[.agg #[.slice A n c], .string lab, .int .i64 kd] w (InpEnd ts lab kd w) := by
  have HTL := Lib.hid (h0.len tgC_len (by omega))
  have H0 := Lib.hid h0; have HOK := Lib.hid hok
  clear h0 hok
  obtain ⟨w0, hw0⟩ : ∃ w0, (w.alloc (.cells #[.slice A n c] 24)).alloc (.cells #[.string lab] 9) = w0 := ⟨_, rfl⟩
  have HB0 : Hid (Below w.heap.size w w0) := by rw [← hw0]; exact ((Below.refl _ w).alloc (Nat.le_refl _) _).alloc (by simp) _
  have hz0 : w0.heap.size = w.heap.size + 2 := by rw [← hw0]; simp
  have HG0 : Hid (Bk w0 w.heap.size 24 #[.slice A n c]) := by rw [← hw0]; exact (Bk.new w _ _).alloc _
  have HL0 : Hid (Bk w0 (w.heap.size + 1) 9 #[.string lab]) := by
    rw [← hw0]
    have := Bk.new (w.alloc (.cells #[.slice A n c] 24)) 9 #[.string lab]
    rw [World.size_alloc] at this; exact this
  have x0 := HG0.out.cell 0; have x1 := HL0.out.cell 0
  simp only [List.getElem?_toArray, List.getElem?_cons_zero] at x0 x1
  have HD := Lib.hid (deps_any A n c B ts lab w0 (H0.out.below HB0.out hB) (fun t ht => (HOK.out t ht).below HB0.out hB) (by omega) hnc hcm hls)
  obtain ⟨i0, hi, hzi0, hzi1, hzi2⟩ := info_parts infoStr
  have Hi := Lib.hid hi; have Hz0 := Lib.hid hzi0; have Hz1 := Lib.hid hzi1; have Hz2 := Lib.hid hzi2
  clear hi hzi0 hzi1 hzi2
  go_enter Tryd.func9, Tryd.ntmps9
  go_wp2_with (go_at_call 13; refine HD.out.mono ?_; rintro e w1 ⟨aA, an, ac, all, err, rfl, hal, hac, hacm, hb1, hfr⟩; refine halt_ ?_)
  refine unhalt ?_
  have HAL := Lib.hid hal; have HFR := Lib.hid hfr
  have HB1 : Hid (Below w.heap.size w w1) := HB0.out.trans (hb1.mono (by omega))
  have HG1 : Hid (Bk w1 w.heap.size 24 #[.slice A n c]) := HG0.out.below hb1 (by omega)
  have HL1 : Hid (Bk w1 (w.heap.size + 1) 9 #[.string lab]) := HL0.out.below hb1 (by omega)
  have hz1 : w.heap.size + 2 ≤ w1.heap.size := by have := hb1.size; omega
  clear hal hfr hb1 HD HG0 HL0 x0 x1 HB0
  clear hw0 hz0
  rcases HFR.out with ⟨h1, rfl, rfl⟩ | ⟨h1, h2, rfl, rfl⟩ | ⟨h1, h2, rfl, h3, h4⟩
  · have HF : Hid (InpR ts lab kd [] 1) := .inl ⟨h1, rfl, rfl⟩
    clear h1
    go_wp2
    go_ret2
    exact InpEnd.none_ HF.out HB1.out
  · have HF : Hid (InpR ts lab kd [] 8) := .inr (.inl ⟨h1, h2, rfl, rfl⟩)
    clear h1 h2
    go_wp2
    go_ret2
    exact InpEnd.none_ HF.out HB1.out
  · have HVL := Lib.hid h1; have HST := Lib.hid h2; have HAS := Lib.hid h3; have HAM := Lib.hid h4
    obtain ⟨t, hft⟩ : ∃ t, findT ts lab = some t := Option.isSome_iff_exists.1 h2
    have htm := findT_lab hft
    obtain ⟨k, hkl, hke⟩ := List.getElem_of_mem htm.2
    have htk : ts[k]? = some t := by rw [← hke]; exact List.getElem?_eq_getElem _
    have HFT := Lib.hid hft; have HTK := Lib.hid htk
    have HUQ : Hid (∀ k', ts[k']? = some t → k' = k) := fun k' h => vld_uniq HVL.out h HTK.out
    have hn100 : n ≤ 100 := by have := HVL.out.few; rw [HTL.out] at this; exact this
    have hkn : k < n := by rw [← HTL.out]; exact hkl
    have HTO := Lib.hid (HOK.out t htm.2)
    have HTD := Lib.hid (HVL.out.all t htm.2)
    have HTE := Lib.hid htm.1
    have hks : (k : Int) < (n : Int) := by omega
    clear h1 h2 h3 h4 hft htk htm hke hkl
    obtain ⟨b, off, t', rfl, hbB, ht', y0, y1, y2, y3⟩ := (H0.out.below HB1.out hB).tg hkn
    rw [HTK.out] at ht'
    cases ht'
    have HSW := Lib.hid (H0.out.below HB1.out hB)
    have hg1 := HG1.out.cell 0; have hl1 := HL1.out.cell 0
    simp only [List.getElem?_toArray, List.getElem?_cons_zero] at hg1 hl1
    obtain ⟨tl, kind, dA, dn, dc, deps, vA, vn, vc, vis⟩ := t
    simp only at y0 y1 y2 y3 HTE
    have HY0 := Lib.hid y0; have HY1 := Lib.hid y1; have HY2 := Lib.hid y2; have HY3 := Lib.hid y3
    have HGC := Lib.hid hg1; have HLC := Lib.hid hl1
    clear y0 y1 y2 y3 hg1 hl1
    go_wp2_with fail
    refine wp_region_stableGD 9 [25, 26, 27, 28, 29, 30, 31, 32, 10] (by kernel_rfl) (by kernel_rfl) (by kernel_rfl) (fun W => Below w1.heap.size w1 W) (fun W W' => Below W.heap.size W W')
      (inpPhi [.pointer (some ⟨w.heap.size, 0, none⟩), .slice (some ⟨b, off, none⟩) n c, .pointer (some ⟨w.heap.size, 0, none⟩), .slice (some ⟨b, off, none⟩) n c, .func (.func 27) #[] #[.pointer (some ⟨w.heap.size + 1, 0, none⟩)], .int .i64 (k : Int), .pointer (some ⟨b, off + k * 4, none⟩), .agg #[.string tl, .int .i64 kind, .slice dA dn dc, .slice vA vn vc]] w1.heap.size) (fun W W' h1 h2 => h1.trans (h2.mono h1.size)) (fun i v W W' h hb => inpPhi_keep i v W W' h hb) (Below.refl _ _).drew ?step ?tail
    case step =>
      intro i o vs W hi ho hv hR hphi
      obtain ⟨v0, v1, v2, v3, v4, v5, v6, v7, v8, rfl⟩ := list9 hv
      simp only [List.zip, List.zipWith, putAll, Act.put, List.setIfInBounds_toArray, List.set]
      have l0 := (hR.cell (p := ⟨w.heap.size, 0, none⟩) (by show w.heap.size < _; omega)).trans HGC.out
      have l1 := (hR.cell (p := ⟨w.heap.size + 1, 0, none⟩) (by show w.heap.size + 1 < _; omega)).trans HLC.out
      have m0 := (hR.cell (p := ⟨b, off + k * 4, none⟩) (by show b < _; omega)).trans HY0.out
      have m1 := (hR.cell (p := ⟨b, off + k * 4 + 1, none⟩) (by show b < _; omega)).trans HY1.out
      have m2 := (hR.cell (p := ⟨b, off + k * 4 + 2, none⟩) (by show b < _; omega)).trans HY2.out
      have m3 := (hR.cell (p := ⟨b, off + k * 4 + 3, none⟩) (by show b < _; omega)).trans HY3.out
      match i, hi, ho with
      | 0, _, rfl =>
        exact .inl ⟨rfl, gives_value (v := .pointer (some ⟨w.heap.size, 0, none⟩)) (w' := W) (by go_simp) ⟨Below.refl _ _, fun u hu => by cases hu; rfl⟩⟩
      | 1, _, rfl =>
        have e0 : v0 = _ := hphi ⟨0, .data⟩ (by simp) rfl v0 rfl _ rfl
        subst e0
        exact .inl ⟨rfl, gives_value (v := .slice (some ⟨b, off, none⟩) n c) (w' := W) (by go_simp) ⟨Below.refl _ _, fun u hu => by cases hu; rfl⟩⟩
      | 2, _, rfl =>
        exact .inl ⟨rfl, gives_value (v := .pointer (some ⟨w.heap.size, 0, none⟩)) (w' := W) (by go_simp) ⟨Below.refl _ _, fun u hu => by cases hu; rfl⟩⟩
      | 3, _, rfl =>
        have e2 : v2 = _ := hphi ⟨2, .data⟩ (by simp) rfl v2 rfl _ rfl
        subst e2
        exact .inl ⟨rfl, gives_value (v := .slice (some ⟨b, off, none⟩) n c) (w' := W) (by go_simp) ⟨Below.refl _ _, fun u hu => by cases hu; rfl⟩⟩
      | 4, _, rfl =>
        exact .inl ⟨rfl, gives_value (v := .func (.func 27) #[] #[.pointer (some ⟨w.heap.size + 1, 0, none⟩)]) (w' := W) (by go_simp) ⟨Below.refl _ _, fun u hu => by cases hu; rfl⟩⟩
      | 5, _, rfl =>
        have e3 : v3 = _ := hphi ⟨3, .data⟩ (by simp) rfl v3 rfl _ rfl
        have e4 : v4 = _ := hphi ⟨4, .data⟩ (by simp) rfl v4 rfl _ rfl
        subst e3 e4
        refine .inl ⟨rfl, gives_call (f := 26) (args := #[.slice (some ⟨b, off, none⟩) n c, .func (.func 27) #[] #[.pointer (some ⟨w.heap.size + 1, 0, none⟩)]]) (by go_simp) ((indexFunc_any (some ⟨b, off, none⟩) n c B (w.heap.size + 1) ts lab W (HSW.out.below hR (by omega)) (by have := hR.size; omega) (by omega) l1 (by have := hR.size; omega) HST.out).mono ?_)⟩
        rintro e W' ⟨k', t', rfl, hk', ht', hf', hb'⟩
        rw [HFT.out] at hf'
        cases hf'
        obtain rfl : k' = k := HUQ.out k' ht'
        exact ⟨_, rfl, hb', fun u hu => by cases hu; rfl⟩
      | 6, _, rfl =>
        have e1 : v1 = _ := hphi ⟨1, .data⟩ (by simp) rfl v1 rfl _ rfl
        have e5 : v5 = _ := hphi ⟨5, .data⟩ (by simp) rfl v5 rfl _ rfl
        subst e1 e5
        exact .inl ⟨rfl, gives_value (v := .pointer (some ⟨b, off + k * 4, none⟩)) (w' := W) (by go_simp) ⟨Below.refl _ _, fun u hu => by cases hu; rfl⟩⟩
      | 7, _, rfl =>
        have e6 : v6 = _ := hphi ⟨6, .data⟩ (by simp) rfl v6 rfl _ rfl
        subst e6
        exact .inl ⟨rfl, gives_value (v := .agg #[.string tl, .int .i64 kind, .slice dA dn dc, .slice vA vn vc]) (w' := W) (by go_simp) ⟨Below.refl _ _, fun u hu => by cases hu; rfl⟩⟩
      | 8, _, rfl =>
        exact .inl ⟨rfl, gives_value (v := .pointer (some ⟨W.heap.size, 0, none⟩)) (w' := W.alloc (.cells #[.string ⟨#[]⟩, .int .i64 0, .slice none 0 0, .slice none 0 0] 35)) (by go_simp) ⟨(Below.refl _ W).alloc (Nat.le_refl _) _, W.heap.size, rfl, hR.size, Bk.new W _ _⟩⟩
      | i + 9, hi, _ => exact absurd hi (by omega)
    case tail =>
      intro vs W hv hR hphi
      obtain ⟨v0, v1, v2, v3, v4, v5, v6, v7, v8, rfl⟩ := list9 hv
      simp only [List.zip, List.zipWith, putAll, Act.put, List.setIfInBounds_toArray, List.set, List.drop]
      have e7 : v7 = _ := hphi 7 v7 rfl _ rfl
      subst e7
      obtain ⟨b0, e8, hb0, hk8⟩ : ∃ b0, v8 = .pointer (some ⟨b0, 0, none⟩) ∧ w1.heap.size ≤ b0 ∧ Bk W b0 35 #[.string ⟨#[]⟩, .int .i64 0, .slice none 0 0, .slice none 0 0] := hphi 8 v8 rfl
      subst e8
      have f0 := hk8.free 0; have f1 := hk8.free 1; have f2 := hk8.free 2; have f3 := hk8.free 3
      have c0 := hk8.cell 0; have c1 := hk8.cell 1; have c2 := hk8.cell 2; have c3 := hk8.cell 3
      simp only [List.getElem?_toArray, List.getElem?_cons_succ, List.getElem?_cons_zero] at c0 c1 c2 c3
      obtain ⟨W3, hW3⟩ : ∃ W3, (((W.setCell ⟨b0, 0, none⟩ (.string tl)).setCell ⟨b0, 1, none⟩ (.int .i64 kind)).setCell ⟨b0, 2, none⟩ (.slice dA dn dc)).setCell ⟨b0, 3, none⟩ (.slice vA vn vc) = W3 := ⟨_, rfl⟩
      have HK3 : Hid (Bk W3 b0 35 #[.string tl, .int .i64 kind, .slice dA dn dc, .slice vA vn vc]) := by
        rw [← hW3]
        have := (((hk8.set 0 (.string tl)).set 1 (.int .i64 kind)).set 2 (.slice dA dn dc)).set 3 (.slice vA vn vc)
        exact this
      have HB3 : Hid (Below w1.heap.size w1 W3) := by
        rw [← hW3]
        exact (((hR.setCell (p := ⟨b0, 0, none⟩) hb0 _).setCell (p := ⟨b0, 1, none⟩) hb0 _).setCell (p := ⟨b0, 2, none⟩) hb0 _).setCell (p := ⟨b0, 3, none⟩) hb0 _
      have HLC3 := Lib.hid ((HB3.out.cell (p := ⟨w.heap.size + 1, 0, none⟩) (by show w.heap.size + 1 < _; omega)).trans HLC.out)
      have q1 := HK3.out.cell 1; have q2 := HK3.out.cell 2
      simp only [List.getElem?_toArray, List.getElem?_cons_succ, List.getElem?_cons_zero] at q1 q2
      have l1 := HLC3.out
      have HBW3 : Hid (Below w.heap.size w W3) := HB1.out.trans (HB3.out.mono (by omega))
      have hb3z := HK3.out.lt
      have hw3z := HB3.out.size
      clear hphi hR hv hk8 HSW HGC HY0 HY1 HY2 HY3
      have hkk : kind = 1 ∨ kind = 2 := HTD.out.kind
      have hdl : deps.length = dn := HTO.out.dlen
      have hdf : deps.length ≤ 20 := HTD.out.few
      have hl90 : lab.size ≤ 90 := vld_size HVL.out HST.out
      by_cases hk1 : kd = 1
      · subst hk1
        have HND : Hid (((sourceW ++ lab) :: deps.map (ifaceW ++ ·)).Nodup) := inp_nodup1 HTD.out.nod
        have HDS : Hid (Sl W3 B 1 dA dn (strs deps)) := HTO.out.d.below HBW3.out hB
        have hdn : dn ≤ 20 := by omega
        have hcat : ¬ (9223372036854775807 < (⟨#[115, 111, 117, 114, 99, 101, 32]⟩ : ByteArray).size + lab.size) := by show ¬ (_ < 7 + lab.size); omega
        go_wp2_with (at_builtin; refine halt_ ?_)
        refine unhalt ?_
        refine wpList_append_sl (base := W3.heap.size) (size := 1) _ rfl (.tmp 56) (.tmp 59) 27 rfl 9 i0 _ 16 Tryd.underlying27 Hi.out Hz0.out Hz1.out Hz2.out rfl (by decide) (.slice none 0 0) 0 [] rfl (World.ownsRow_nil _ _ _ _) (W3.heap.size + 1) _ 1 _ [.string (sourceW ++ lab)] rfl ?nw_1 (by simp [Value.oneCell']) ?l1_1 ?l2_1 ?l3_1 ?_
        case nw_1 => exact ⟨rfl, fun _ => ⟨W3.heap.size, 0, rfl, Nat.lt_succ_self _, fun j u hu => by have := new_cell W3 9 (sourceW ++ lab) j u hu; rwa [Addr.add_lit] at this⟩⟩
        case l1_1 => unfold maxLen; omega
        case l2_1 => omega
        case l3_1 => simp
        intro A4 c4 w4 ho4 hg4 hc41 hc42
        have HO4 : Hid (w4.ownsRow W3.heap.size 9 1 (.slice A4 1 c4) 1 (strs [sourceW ++ lab])) := ho4
        have HB4 : Hid (Below W3.heap.size W3 w4) := ((Below.refl _ W3).alloc (Nat.le_refl _) _).trans ((below_none hg4).mono (by simp))
        have hz4 : W3.heap.size + 1 ≤ w4.heap.size := by have := hg4.size; simp at this; omega
        have q2' := (HB4.out.cell (p := ⟨b0, 2, none⟩) hb3z).trans q2
        clear ho4 hg4 q1 q2 l1 hW3 f0 f1 f2 f3 c0 c1 c2 c3
        go_wp2
        go_loopw [11, 64] (fun q i wr => ∃ (j : Nat) (Aq : Option Addr) (cq : Nat), j ≤ dn ∧ i = .int .i64 j ∧ q = .slice Aq (j + 1) cq ∧ Hid (wr.ownsRow W3.heap.size 9 1 (.slice Aq (j + 1) cq) (j + 1) (strs ((sourceW ++ lab) :: (deps.take j).map (ifaceW ++ ·)))) ∧ Hid (Below W3.heap.size W3 wr)) (fun _ i _ => dn - (intOf i).toNat)
        case atStart => exact ⟨0, A4, c4, Nat.zero_le _, rfl, rfl, HO4.out, HB4.out⟩
        case round =>
          obtain ⟨j, Aq, cq, hj, rfl, rfl, hO, hBel⟩ := hrel
          by_cases hlt : j < dn
          · obtain ⟨db, doff, x, rfl, hdb, hx, y0⟩ := (HDS.out.below hBel.out (Nat.le_trans hB (by omega))).str_at hlt
            have hlz : (j : Int) < (dn : Int) := by omega
            have HX := Lib.hid hx
            have hx90 : x.size ≤ 90 := vld_size HVL.out (kindOf_isT (HTD.out.dep x (List.mem_of_getElem? hx)))
            have hwr := hBel.out.size
            clear hx
            have hcat2 : ¬ (9223372036854775807 < (⟨#[105, 102, 97, 99, 101, 32]⟩ : ByteArray).size + x.size) := by show ¬ (_ < 6 + x.size); omega
            go_wp2_with (at_builtin; refine halt_ ?_)
            refine unhalt ?_
            refine wpList_append_sl (base := W3.heap.size) (size := 1) _ rfl (.tmp 68) (.tmp 71) 27 rfl 9 i0 _ 16 Tryd.underlying27 Hi.out Hz0.out Hz1.out Hz2.out rfl (by decide) (.slice Aq (j + 1) cq) (j + 1) (strs ((sourceW ++ lab) :: (deps.take j).map (ifaceW ++ ·))) rfl ?own_2 (wr.heap.size + 1) _ 1 _ [.string (ifaceW ++ x)] rfl ?nw2_2 (by simp [Value.oneCell']) ?m1_2 ?m2_2 ?m3_2 ?_
            case own_2 => exact hO.out.kept (World.grownBy_alloc wr _ none) (by cases hv : (Value.slice Aq (j + 1) cq).ownBlock with | none => exact .inl rfl | some k => exact .inr (by simp))
            case nw2_2 => exact ⟨rfl, fun _ => ⟨wr.heap.size, 0, rfl, Nat.lt_succ_self _, fun j u hu => by have := new_cell wr 9 (ifaceW ++ x) j u hu; rwa [Addr.add_lit] at this⟩⟩
            case m1_2 => unfold maxLen; omega
            case m2_2 => omega
            case m3_2 => simp; omega
            intro A5 c5 w5 ho5 hg5 hc51 hc52
            have HO5 : Hid (w5.ownsRow W3.heap.size 9 1 (.slice A5 (j + 1 + 1) c5) (j + 1 + 1) (strs ((sourceW ++ lab) :: (deps.take (j + 1)).map (ifaceW ++ ·)))) := by
              show World.ownsRow _ _ _ _ _ _ _
              rw [map_take_snoc (ifaceW ++ ·) (sourceW ++ lab) HX.out, strs_snoc]; exact ho5
            have HB5 : Hid (Below W3.heap.size W3 w5) := (hBel.out.alloc (by omega) _).grown hg5 (by simp; omega) (fun k hk => ownBlock_ge hO.out k hk)
            clear ho5 hg5
            go_wp2
            go_roundw
            case rel => exact ⟨j + 1, A5, c5, by omega, by go_num, rfl, HO5.out, HB5.out⟩
            case measure => simp [intOf]; omega
          · have hlz : ¬ (j : Int) < (dn : Int) := by omega
            have hje : dn = j := by omega
            subst hje
            have HO6 : Hid (wr.ownsRow W3.heap.size 9 1 (.slice Aq (dn + 1) cq) (dn + 1) (strs ((sourceW ++ lab) :: deps.map (ifaceW ++ ·)))) := by
              have := hO.out
              rw [List.take_of_length_le (by omega)] at this
              exact this
            go_wp2_with (go_at_call 28; refine (sort_any W3.heap.size (dn + 1) cq Aq ((sourceW ++ lab) :: deps.map (ifaceW ++ ·)) wr HO6.out (by omega)).mono ?_; rintro e w5 ⟨rfl, hs1, hs2⟩)
            go_ret2
            obtain ⟨_, _, hform, hl1, hl2⟩ := ownsRow_form hs1
            injection hform with _ _ hcc
            subst hcc
            refine ⟨_, _, _, srtB ((sourceW ++ lab) :: deps.map (ifaceW ++ ·)), 0, rfl, Sl.of_own hs1, hl1, hl2, HBW3.out.trans ((hBel.out.grown hs2 hBel.out.size (fun k hk => ownBlock_ge HO6.out k hk)).mono HBW3.out.size), .inr (.inr ⟨HVL.out, _, HFT.out, .inr ⟨(fun h => h.1 rfl), rfl, srtB_asc HND.out, fun x => ?_⟩⟩)⟩
            rw [srtB_mem]
            constructor
            · intro h
              refine .inl ⟨rfl, ?_⟩
              rcases List.mem_cons.1 h with h | h
              · exact .inl h
              · obtain ⟨d, hd, e⟩ := List.mem_map.1 h
                exact .inr ⟨d, hd, e.symm⟩
            · rintro (⟨_, h⟩ | ⟨h, _⟩ | ⟨h, _⟩)
              · rcases h with h | ⟨d, hd, h⟩
                · exact List.mem_cons.2 (.inl h)
                · exact List.mem_cons.2 (.inr (List.mem_map.2 ⟨d, hd, h.symm⟩))
              · exact absurd h (by decide)
              · exact absurd h (by decide)
      · by_cases hk2 : kd = 2
        · subst hk2
          rcases hkk with rfl | rfl
          · go_wp2
            go_ret2
            exact InpEnd.none_ (.inr (.inr ⟨HVL.out, _, HFT.out, .inl ⟨⟨by omega, .inr rfl⟩, rfl, rfl⟩⟩)) HBW3.out
          · have HND : Hid (((codeW ++ lab) :: all.map (codeW ++ ·)).Nodup) := inp_nodup2 HAS.out.nodup (fun h => HVL.out.free lab ((HAM.out lab).1 h))
            have HDS : Hid (Sl W3 w1.heap.size 1 aA an (strs all)) := HAL.out.below HB3.out (Nat.le_refl _)
            have hal : all.length = an := by have := HAL.out.1; rw [strs_len] at this; omega
            have han : an ≤ 100 := by
              have h1 := nodup_len all (ts.map Tg.lab) HAS.out.nodup (fun x hx => (isT_iff ts x).1 (rch_isT ((HAM.out x).1 hx)))
              rw [List.length_map, HTL.out] at h1; omega
            have hcat : ¬ (9223372036854775807 < (⟨#[99, 111, 100, 101, 32]⟩ : ByteArray).size + lab.size) := by show ¬ (_ < 5 + lab.size); omega
            go_wp2_with (at_builtin; refine halt_ ?_)
            refine unhalt ?_
            refine wpList_append_sl (base := W3.heap.size) (size := 1) _ rfl (.tmp 76) (.tmp 79) 27 rfl 9 i0 _ 16 Tryd.underlying27 Hi.out Hz0.out Hz1.out Hz2.out rfl (by decide) (.slice none 0 0) 0 [] rfl (World.ownsRow_nil _ _ _ _) (W3.heap.size + 1) _ 1 _ [.string (codeW ++ lab)] rfl ?nw_3 (by simp [Value.oneCell']) ?l1_3 ?l2_3 ?l3_3 ?_
            case nw_3 => exact ⟨rfl, fun _ => ⟨W3.heap.size, 0, rfl, Nat.lt_succ_self _, fun j u hu => by have := new_cell W3 9 (codeW ++ lab) j u hu; rwa [Addr.add_lit] at this⟩⟩
            case l1_3 => unfold maxLen; omega
            case l2_3 => omega
            case l3_3 => simp
            intro A4 c4 w4 ho4 hg4 hc41 hc42
            have HO4 : Hid (w4.ownsRow W3.heap.size 9 1 (.slice A4 1 c4) 1 (strs [codeW ++ lab])) := ho4
            have HB4 : Hid (Below W3.heap.size W3 w4) := ((Below.refl _ W3).alloc (Nat.le_refl _) _).trans ((below_none hg4).mono (by simp))
            have hz4 : W3.heap.size + 1 ≤ w4.heap.size := by have := hg4.size; simp at this; omega
            have q2' := (HB4.out.cell (p := ⟨b0, 2, none⟩) hb3z).trans q2
            clear ho4 hg4 q1 q2 l1 hW3 f0 f1 f2 f3 c0 c1 c2 c3
            go_wp2
            go_loopw [11, 83] (fun q i wr => ∃ (j : Nat) (Aq : Option Addr) (cq : Nat), j ≤ an ∧ i = .int .i64 j ∧ q = .slice Aq (j + 1) cq ∧ Hid (wr.ownsRow W3.heap.size 9 1 (.slice Aq (j + 1) cq) (j + 1) (strs ((codeW ++ lab) :: (all.take j).map (codeW ++ ·)))) ∧ Hid (Below W3.heap.size W3 wr)) (fun _ i _ => an - (intOf i).toNat)
            case atStart => exact ⟨0, A4, c4, Nat.zero_le _, rfl, rfl, HO4.out, HB4.out⟩
            case round =>
              obtain ⟨j, Aq, cq, hj, rfl, rfl, hO, hBel⟩ := hrel
              by_cases hlt : j < an
              · obtain ⟨db, doff, x, rfl, hdb, hx, y0⟩ := (HDS.out.below hBel.out hw3z).str_at hlt
                have hlz : (j : Int) < (an : Int) := by omega
                have HX := Lib.hid hx
                have hx90 : x.size ≤ 90 := vld_size HVL.out (rch_isT ((HAM.out x).1 (List.mem_of_getElem? hx)))
                have hwr := hBel.out.size
                clear hx
                have hcat2 : ¬ (9223372036854775807 < (⟨#[99, 111, 100, 101, 32]⟩ : ByteArray).size + x.size) := by show ¬ (_ < 5 + x.size); omega
                go_wp2_with (at_builtin; refine halt_ ?_)
                refine unhalt ?_
                refine wpList_append_sl (base := W3.heap.size) (size := 1) _ rfl (.tmp 87) (.tmp 90) 27 rfl 9 i0 _ 16 Tryd.underlying27 Hi.out Hz0.out Hz1.out Hz2.out rfl (by decide) (.slice Aq (j + 1) cq) (j + 1) (strs ((codeW ++ lab) :: (all.take j).map (codeW ++ ·))) rfl ?own_4 (wr.heap.size + 1) _ 1 _ [.string (codeW ++ x)] rfl ?nw2_4 (by simp [Value.oneCell']) ?m1_4 ?m2_4 ?m3_4 ?_
                case own_4 => exact hO.out.kept (World.grownBy_alloc wr _ none) (by cases hv : (Value.slice Aq (j + 1) cq).ownBlock with | none => exact .inl rfl | some k => exact .inr (by simp))
                case nw2_4 => exact ⟨rfl, fun _ => ⟨wr.heap.size, 0, rfl, Nat.lt_succ_self _, fun j u hu => by have := new_cell wr 9 (codeW ++ x) j u hu; rwa [Addr.add_lit] at this⟩⟩
                case m1_4 => unfold maxLen; omega
                case m2_4 => omega
                case m3_4 => simp; omega
                intro A5 c5 w5 ho5 hg5 hc51 hc52
                have HO5 : Hid (w5.ownsRow W3.heap.size 9 1 (.slice A5 (j + 1 + 1) c5) (j + 1 + 1) (strs ((codeW ++ lab) :: (all.take (j + 1)).map (codeW ++ ·)))) := by
                  show World.ownsRow _ _ _ _ _ _ _
                  rw [map_take_snoc (codeW ++ ·) (codeW ++ lab) HX.out, strs_snoc]; exact ho5
                have HB5 : Hid (Below W3.heap.size W3 w5) := (hBel.out.alloc (by omega) _).grown hg5 (by simp; omega) (fun k hk => ownBlock_ge hO.out k hk)
                clear ho5 hg5
                go_wp2
                go_roundw
                case rel => exact ⟨j + 1, A5, c5, by omega, by go_num, rfl, HO5.out, HB5.out⟩
                case measure => simp [intOf]; omega
              · have hlz : ¬ (j : Int) < (an : Int) := by omega
                have hje : an = j := by omega
                subst hje
                have HO6 : Hid (wr.ownsRow W3.heap.size 9 1 (.slice Aq (an + 1) cq) (an + 1) (strs ((codeW ++ lab) :: all.map (codeW ++ ·)))) := by
                  have := hO.out
                  rw [List.take_of_length_le (by omega)] at this
                  exact this
                go_wp2_with (go_at_call 28; refine (sort_any W3.heap.size (an + 1) cq Aq ((codeW ++ lab) :: all.map (codeW ++ ·)) wr HO6.out (by omega)).mono ?_; rintro e w5 ⟨rfl, hs1, hs2⟩)
                go_ret2
                obtain ⟨_, _, hform, hl1, hl2⟩ := ownsRow_form hs1
                injection hform with _ _ hcc
                subst hcc
                refine ⟨_, _, _, srtB ((codeW ++ lab) :: all.map (codeW ++ ·)), 0, rfl, Sl.of_own hs1, hl1, hl2, HBW3.out.trans ((hBel.out.grown hs2 hBel.out.size (fun k hk => ownBlock_ge HO6.out k hk)).mono HBW3.out.size), .inr (.inr ⟨HVL.out, _, HFT.out, .inr ⟨notBad2, rfl, srtB_asc HND.out, fun x => ?_⟩⟩)⟩
                rw [srtB_mem]
                constructor
                · intro h
                  refine .inr (.inl ⟨rfl, ?_⟩)
                  rcases List.mem_cons.1 h with h | h
                  · exact .inl h
                  · obtain ⟨d, hd, e⟩ := List.mem_map.1 h
                    exact .inr ⟨d, (HAM.out d).1 hd, e.symm⟩
                · rintro (⟨h, _⟩ | ⟨_, h⟩ | ⟨h, _⟩)
                  · exact absurd h (by decide)
                  · rcases h with h | ⟨d, hd, h⟩
                    · exact List.mem_cons.2 (.inl h)
                    · exact List.mem_cons.2 (.inr (List.mem_map.2 ⟨d, (HAM.out d).2 hd, h.symm⟩))
                  · exact absurd h (by decide)
        · by_cases hk3 : kd = 3
          · subst hk3
            rcases hkk with rfl | rfl
            · go_wp2
              go_ret2
              exact InpEnd.none_ (.inr (.inr ⟨HVL.out, _, HFT.out, .inl ⟨⟨by omega, .inr rfl⟩, rfl, rfl⟩⟩)) HBW3.out
            · have HND : Hid ([programW ++ lab].Nodup) := by simp [Hid]
              have hcat : ¬ (9223372036854775807 < (⟨#[112, 114, 111, 103, 114, 97, 109, 32]⟩ : ByteArray).size + lab.size) := by show ¬ (_ < 8 + lab.size); omega
              go_wp2_with (at_builtin; refine halt_ ?_)
              refine unhalt ?_
              refine wpList_append_sl (base := W3.heap.size) (size := 1) _ rfl (.tmp 49) (.tmp 52) 27 rfl 9 i0 _ 16 Tryd.underlying27 Hi.out Hz0.out Hz1.out Hz2.out rfl (by decide) (.slice none 0 0) 0 [] rfl (World.ownsRow_nil _ _ _ _) (W3.heap.size + 1) _ 1 _ [.string (programW ++ lab)] rfl ?nw_5 (by simp [Value.oneCell']) ?l1_5 ?l2_5 ?l3_5 ?_
              case nw_5 => exact ⟨rfl, fun _ => ⟨W3.heap.size, 0, rfl, Nat.lt_succ_self _, fun j u hu => by have := new_cell W3 9 (programW ++ lab) j u hu; rwa [Addr.add_lit] at this⟩⟩
              case l1_5 => unfold maxLen; omega
              case l2_5 => omega
              case l3_5 => simp
              intro A4 c4 w4 ho4 hg4 hc41 hc42
              have HO4 : Hid (w4.ownsRow W3.heap.size 9 1 (.slice A4 1 c4) 1 (strs [programW ++ lab])) := ho4
              have HB4 : Hid (Below W3.heap.size W3 w4) := ((Below.refl _ W3).alloc (Nat.le_refl _) _).trans ((below_none hg4).mono (by simp))
              have hz4 : W3.heap.size + 1 ≤ w4.heap.size := by have := hg4.size; simp at this; omega
              have q2' := (HB4.out.cell (p := ⟨b0, 2, none⟩) hb3z).trans q2
              clear ho4 hg4 q1 q2 l1 hW3 f0 f1 f2 f3 c0 c1 c2 c3
              go_wp2_with (go_at_call 28; refine (sort_any W3.heap.size 1 c4 A4 [programW ++ lab] w4 HO4.out (by omega)).mono ?_; rintro e w5 ⟨rfl, hs1, hs2⟩)
              go_ret2
              obtain ⟨_, _, hform, hl1, hl2⟩ := ownsRow_form hs1
              injection hform with _ _ hcc
              subst hcc
              refine ⟨_, _, _, srtB [programW ++ lab], 0, rfl, Sl.of_own hs1, hl1, hl2, HBW3.out.trans ((HB4.out.grown hs2 HB4.out.size (fun k hk => ownBlock_ge HO4.out k hk)).mono HBW3.out.size), .inr (.inr ⟨HVL.out, _, HFT.out, .inr ⟨notBad3, rfl, srtB_asc HND.out, fun x => ?_⟩⟩)⟩
              rw [srtB_mem]
              constructor
              · intro h
                exact .inr (.inr ⟨rfl, List.mem_singleton.1 h⟩)
              · rintro (⟨h, _⟩ | ⟨h, _⟩ | ⟨_, h⟩)
                · exact absurd h (by decide)
                · exact absurd h (by decide)
                · exact List.mem_singleton.2 h
          · have n1 : (kd != 1) = true := by simp [hk1]
            have n2 : (kd != 2) = true := by simp [hk2]
            have n3 : (kd != 3) = true := by simp [hk3]
            have HBK : Hid (BadK kd ⟨tl, kind, dA, dn, dc, deps, vA, vn, vc, vis⟩) := ⟨hk1, .inl ⟨hk2, hk3⟩⟩
            clear hk1 hk2 hk3
            go_wp2
            go_ret2
            exact InpEnd.none_ (.inr (.inr ⟨HVL.out, _, HFT.out, .inl ⟨HBK.out, rfl, rfl⟩⟩)) HBW3.out
end Go.Proofs.YtiphbincnnppdaaDoor

namespace Go.Proofs.YtiphbincnnppdaaDoor
open Go.RowKit Go.Shelf

def fwords : List Bytes := [[115, 111, 117, 114, 99, 101], [105, 102, 97, 99, 101], [99, 111, 100, 101], [112, 114, 111, 103, 114, 97, 109], [118, 101, 114, 100, 105, 99, 116]]
/-- the name of a file of a build -/
def FnP (l : Bytes) : Prop := ∃ a ∈ fwords, ∃ r, l = a ++ 32 :: r ∧ labL r = true
open Classical in
noncomputable def fnB (s : ByteArray) : Bool := decide (FnP (bl s))
theorem fnB_iff (s : ByteArray) : fnB s = true ↔ FnP (bl s) := by unfold fnB; simp
theorem fwords_no : ∀ a ∈ fwords, (32 : UInt8) ∉ a := by decide
theorem cut_uniq : ∀ {a b r q : Bytes}, (32 : UInt8) ∉ a → (32 : UInt8) ∉ b → a ++ 32 :: r = b ++ 32 :: q → a = b ∧ r = q
  | [], [], r, q, _, _, h => by simpa using h
  | [], y :: b, r, q, _, hb, h => by simp at h; exact absurd (by rw [h.1]; simp) hb
  | x :: a, [], r, q, ha, _, h => by simp at h; exact absurd (by rw [h.1]; simp) ha
  | x :: a, y :: b, r, q, ha, hb, h => by
    simp only [List.cons_append, List.cons.injEq] at h
    simp only [List.mem_cons, not_or] at ha hb
    obtain ⟨h1, h2⟩ := cut_uniq ha.2 hb.2 h.2
    exact ⟨by rw [h.1, h1], h2⟩
theorem fnB_cut {s a b : ByteArray} (h : bl s = bl a ++ 32 :: bl b) (hn : (32 : UInt8) ∉ bl a) : fnB s = (decide (bl a ∈ fwords) && labB b) := by
  rw [Bool.eq_iff_iff, fnB_iff, Bool.and_eq_true, decide_eq_true_iff]
  constructor
  · rintro ⟨v, hv, r, hr, hl⟩
    obtain ⟨h1, h2⟩ := cut_uniq (fwords_no v hv) hn (hr.symm.trans h)
    rw [← h1]
    refine ⟨hv, ?_⟩
    unfold labB; rw [← h2]; exact hl
  · rintro ⟨h1, h2⟩
    exact ⟨bl a, h1, bl b, h, h2⟩
theorem fnB_none {s : ByteArray} (h : (32 : UInt8) ∉ bl s) : fnB s = false := by
  rw [Bool.eq_false_iff]
  intro hf
  obtain ⟨v, _, r, hr, _⟩ := (fnB_iff s).1 hf
  rw [hr] at h
  exact h (by simp)

def CutEnd (s : ByteArray) (w : World) (e : Ending) (w' : World) : Prop :=
  (∃ k, w' = w.drewN k) ∧ ((∃ a b, e = .returned (.tuple #[.string a, .string b, .bool true]) ∧ bl s = bl a ++ 32 :: bl b ∧ (32 : UInt8) ∉ bl a) ∨ ((32 : UInt8) ∉ bl s ∧ e = .returned (.tuple #[.string s, .string ⟨#[]⟩, .bool false])))
set_option maxRecDepth 100000 in
set_option maxHeartbeats 1000000 in
theorem cutLite_any (s : ByteArray) (w : World) (hs : s.size ≤ maxLen) : Calls Tryd.prog 94 #[.string s, .string ⟨#[32]⟩] w (CutEnd s w) := by
  have hs' : s.size ≤ 9223372036854775807 := by unfold maxLen at hs; exact hs
  have HX := Lib.hid (Tryd.stringslite_Index_one s 32 w)
  by_cases hi : Lib.indexByte s.data.toList 32 = -1
  · have HN : Hid ((32 : UInt8) ∉ bl s) := fun hm => by
      obtain ⟨j, hj, e⟩ := List.getElem_of_mem hm
      exact Lib.indexByte_none hi j (by rw [← e]; exact List.getElem?_eq_getElem _)
    rw [hi] at HX
    clear hi
    go_enter Tryd.func94, Tryd.ntmps94
    go_wp2_with fail
    refine HX.out.mono ?_
    rintro e w1 ⟨rfl, rfl⟩
    go_wp2_with fail
    go_ret3
    exact ⟨⟨0, rfl⟩, .inr ⟨HN.out, rfl⟩⟩
  · obtain ⟨i, hi'⟩ : ∃ i : Nat, Lib.indexByte s.data.toList 32 = i := ⟨(Lib.indexByte s.data.toList 32).toNat, by have := Lib.indexByte_ge s.data.toList 32; omega⟩
    obtain ⟨h1, h2⟩ := Lib.indexByte_some hi'
    have hil : i < s.size := by rw [size_len]; exact (List.getElem?_eq_some_iff.1 h1).1
    have HSP : Hid (bl s = bl (s.extract 0 i) ++ 32 :: bl (s.extract (i + 1) s.size) ∧ (32 : UInt8) ∉ bl (s.extract 0 i)) := by
      have e1 : bl (s.extract 0 i) = (bl s).take i := by unfold bl; rw [extract_list]; simp
      have e2 : bl (s.extract (i + 1) s.size) = (bl s).drop (i + 1) := by unfold bl; rw [extract_list, size_len]; rw [List.take_of_length_le (by simp)]
      have hlt : i < (bl s).length := by rw [size_len] at hil; exact hil
      refine ⟨?_, fun hm => ?_⟩
      · rw [e1, e2]
        have e3 : (bl s)[i] = 32 := by have := h1; rw [show s.data.toList = bl s from rfl, List.getElem?_eq_getElem hlt] at this; exact Option.some.inj this
        rw [← e3, ← List.drop_eq_getElem_cons hlt, List.take_append_drop]
      · rw [e1] at hm
        obtain ⟨j, hj, e⟩ := List.getElem_of_mem hm
        rw [List.length_take] at hj
        refine h2 j (by omega) ?_
        rw [List.getElem_take] at e
        rw [← e]; exact List.getElem?_eq_getElem _
    rw [hi'] at HX
    clear hi hi' h1 h2
    go_enter Tryd.func94, Tryd.ntmps94
    go_wp2_with fail
    refine HX.out.mono ?_
    rintro e w1 ⟨rfl, rfl⟩
    have hi0 : (0 : Int) ≤ (i : Int) := by omega
    go_wp2_with fail
    go_quiet (fail)
    go_wp2_with fail
    go_ret3
    exact ⟨⟨_, rfl⟩, .inl ⟨_, _, rfl, HSP.out⟩⟩
set_option maxHeartbeats 1000000 in
theorem cut_any (s : ByteArray) (w : World) (hs : s.size ≤ maxLen) : Calls Tryd.prog 65 #[.string s, .string ⟨#[32]⟩] w (CutEnd s w) := by
  have HX := Lib.hid (cutLite_any s w hs)
  go_enter Tryd.func65, Tryd.ntmps65
  go_wp2_with fail
  refine HX.out.mono ?_
  rintro e w1 ⟨⟨k, rfl⟩, ⟨a, b, rfl, h1, h2⟩ | ⟨h1, rfl⟩⟩
  · have H1 := Lib.hid h1; have H2 := Lib.hid h2; clear h1 h2
    go_wp2_with fail
    go_ret3
    exact ⟨⟨_, rfl⟩, .inl ⟨a, b, rfl, H1.out, H2.out⟩⟩
  · have H1 := Lib.hid h1; clear h1
    go_wp2_with fail
    go_ret3
    exact ⟨⟨_, rfl⟩, .inr ⟨H1.out, rfl⟩⟩
theorem blu (a : ByteArray) (l : Bytes) : a = ⟨l.toArray⟩ ↔ bl a = l := by
  constructor
  · rintro rfl; rfl
  · intro h; exact data_inj h
set_option maxRecDepth 100000 in
set_option maxHeartbeats 4000000 in
theorem fileName_any (s : ByteArray) (w : World) (hs : s.size ≤ maxLen) : Calls Tryd.prog 39 #[.string s] w fun e w' => e = .returned (.bool (fnB s)) ∧ Below w.heap.size w w' := by
  have HX := Lib.hid (cut_any s w hs)
  go_enter Tryd.func39, Tryd.ntmps39
  go_wp2_with fail
  refine HX.out.mono ?_
  rintro e w1 ⟨⟨k, rfl⟩, ⟨a, b, rfl, h1, h2⟩ | ⟨h1, rfl⟩⟩
  · have hv := fnB_cut h1 h2
    have hbs : b.size ≤ maxLen := by
      have e1 := congrArg List.length h1
      rw [size_len]
      rw [size_len] at hs
      simp [bl] at e1 hs ⊢; omega
    have HB0 : Hid (Below w.heap.size w (w.drewN k)) := below_drewN (Below.refl _ _) k
    have HLB := Lib.hid (label_any b (w.drewN k) hbs)
    clear h1 h2 HX

    cases hl : labB b with
    | false =>
      rw [hl] at hv HLB
      have HV := Lib.hid hv; clear hv hl
      go_wp2_with fail
      refine HLB.out.mono ?_
      rintro e w2 ⟨rfl, hb⟩
      have HB := Lib.hid (HB0.out.trans (hb.mono HB0.out.size)); clear hb
      go_wp2_with fail
      go_ret
      exact ⟨ret_bool (by rw [HV.out]; simp), HB.out⟩
    | true =>
      rw [hl] at hv HLB
      have HV := Lib.hid hv; clear hv hl
      have m0 := str_lit a [115, 111, 117, 114, 99, 101]
      have m1 := str_lit a [105, 102, 97, 99, 101]
      have m2 := str_lit a [99, 111, 100, 101]
      have m3 := str_lit a [112, 114, 111, 103, 114, 97, 109]
      have m4 := str_lit a [118, 101, 114, 100, 105, 99, 116]
      go_wp2_with fail
      refine HLB.out.mono ?_
      rintro e w2 ⟨rfl, hb⟩
      have HB := Lib.hid (HB0.out.trans (hb.mono HB0.out.size)); clear hb
      by_cases e0 : a = ⟨[115, 111, 117, 114, 99, 101].toArray⟩
      · rw [decide_eq_true e0] at m0
        have HE : Hid (fnB s = true) := by show _ = _; rw [HV.out, e0]; rfl
        clear e0 m1 m2 m3 m4
        go_wp2_with fail
        go_ret
        exact ⟨ret_bool HE.out.symm, HB.out⟩
      rw [decide_eq_false e0] at m0
      by_cases e1 : a = ⟨[105, 102, 97, 99, 101].toArray⟩
      · rw [decide_eq_true e1] at m1
        have HE : Hid (fnB s = true) := by show _ = _; rw [HV.out, e1]; rfl
        clear e0 e1 m2 m3 m4
        go_wp2_with fail
        go_ret
        exact ⟨ret_bool HE.out.symm, HB.out⟩
      rw [decide_eq_false e1] at m1
      by_cases e2 : a = ⟨[99, 111, 100, 101].toArray⟩
      · rw [decide_eq_true e2] at m2
        have HE : Hid (fnB s = true) := by show _ = _; rw [HV.out, e2]; rfl
        clear e0 e1 e2 m3 m4
        go_wp2_with fail
        go_ret
        exact ⟨ret_bool HE.out.symm, HB.out⟩
      rw [decide_eq_false e2] at m2
      by_cases e3 : a = ⟨[112, 114, 111, 103, 114, 97, 109].toArray⟩
      · rw [decide_eq_true e3] at m3
        have HE : Hid (fnB s = true) := by show _ = _; rw [HV.out, e3]; rfl
        clear e0 e1 e2 e3 m4
        go_wp2_with fail
        go_ret
        exact ⟨ret_bool HE.out.symm, HB.out⟩
      rw [decide_eq_false e3] at m3
      by_cases e4 : a = ⟨[118, 101, 114, 100, 105, 99, 116].toArray⟩
      · rw [decide_eq_true e4] at m4
        have HE : Hid (fnB s = true) := by show _ = _; rw [HV.out, e4]; rfl
        clear e0 e1 e2 e3 e4
        go_wp2_with fail
        go_ret
        exact ⟨ret_bool HE.out.symm, HB.out⟩
      rw [decide_eq_false e4] at m4
      have HE : Hid (fnB s = false) := by
        show _ = _
        rw [HV.out, Bool.and_true, decide_eq_false_iff_not]
        rw [blu] at e0 e1 e2 e3 e4
        unfold fwords
        simp only [List.mem_cons, List.mem_nil_iff, or_false, not_or]
        exact ⟨e0, e1, e2, e3, e4⟩
      clear e0 e1 e2 e3 e4
      go_wp2_with fail
      go_ret
      exact ⟨ret_bool HE.out.symm, HB.out⟩
  · have HE := Lib.hid (fnB_none h1)
    clear h1
    have HB0 : Hid (Below w.heap.size w (w.drewN k)) := below_drewN (Below.refl _ _) k
    go_wp2_with fail
    go_ret
    exact ⟨ret_bool HE.out.symm, HB0.out⟩
end Go.Proofs.YtiphbincnnppdaaDoor

namespace Go.Proofs.YtiphbincnnppdaaDoor
open Go.RowKit Go.Shelf

def okP : Option ByteArray → ByteArray → Bool
  | none, _ => true
  | some q, s => less q s
/-- why files are not those of an output; the path ahead of them -/
noncomputable def chkF : Option ByteArray → List Fl → Int
  | _, [] => 0
  | p, f :: r => if fnB f.1 = false then 6 else if 65536 < f.2.size then 4 else if okP p f.1 = false then 10 else chkF (some f.1) r
noncomputable def chkO (fd : Bool) (msg : ByteArray) (fs : List Fl) : Int :=
  if fd = true then (if msg.size = 0 ∨ 0 < fs.length then 1 else if 300 < msg.size then 4 else 0) else if msg.size ≠ 0 then 1 else if 10 < fs.length then 4 else chkF none fs
def prevF (fs : List Fl) (k : Nat) : Option ByteArray := if k = 0 then none else (fs[k - 1]?).map Prod.fst
theorem chkF_at {fs : List Fl} {k : Nat} {f : Fl} (h : fs[k]? = some f) :
    chkF (prevF fs k) (fs.drop k) = if fnB f.1 = false then 6 else if 65536 < f.2.size then 4 else if okP (prevF fs k) f.1 = false then 10 else chkF (prevF fs (k + 1)) (fs.drop (k + 1)) := by
  have hk := (List.getElem?_eq_some_iff.1 h).1
  have e : fs.drop k = f :: fs.drop (k + 1) := by
    rw [List.drop_eq_getElem_cons hk]; congr 1; exact (List.getElem?_eq_some_iff.1 h).2
  rw [e, chkF]
  have : prevF fs (k + 1) = some f.1 := by unfold prevF; rw [if_neg (by omega), Nat.add_sub_cancel, h]; rfl
  rw [this]
theorem str_empty (s : ByteArray) : (s.toList == []) = decide (s.size = 0) := by
  rw [ByteArray.toList_eq, size_len]
  cases s.data.toList <;> simp

set_option maxRecDepth 100000 in
set_option maxHeartbeats 4000000 in
theorem checkOutput_any (fd : Bool) (msg : ByteArray) (A : Option Addr) (n c B : Nat) (fs : List Fl) (w : World) (h0 : Sl w B 2 A n (flat flC fs)) (hB : B ≤ w.heap.size) (hn : n ≤ maxLen) (hfs : ∀ f ∈ fs, f.1.size ≤ maxLen) :
    Calls Tryd.prog 41 #[.agg #[.bool fd, .string msg, .slice A n c]] w fun e w' => e = .returned (.int .i64 (chkO fd msg fs)) ∧ Below w.heap.size w w' := by
  have HL := Lib.hid (h0.len flC_len (by omega))
  have hn' : n ≤ 9223372036854775807 := by unfold maxLen at hn; exact hn
  have H0 := Lib.hid h0; have HFS := Lib.hid hfs
  clear h0 hfs
  have HM : Hid (chkO fd msg fs = if fd = true then (if msg.size = 0 ∨ 0 < fs.length then 1 else if 300 < msg.size then 4 else 0) else if msg.size ≠ 0 then 1 else if 10 < fs.length then 4 else chkF none fs) := rfl
  rw [HL.out] at HM
  have hem := str_empty msg
  obtain ⟨W, hW⟩ : ∃ W, w.alloc (.cells #[.bool fd, .string msg, .slice A n c] 62) = W := ⟨_, rfl⟩
  have HB : Hid (Below w.heap.size w W) := by rw [← hW]; exact (Below.refl w.heap.size w).alloc (Nat.le_refl _) _
  have K0 : Hid (Bk W w.heap.size 62 #[.bool fd, .string msg, .slice A n c]) := by rw [← hW]; exact Bk.new w _ _
  have u0 := K0.out.cell 0; have u1 := K0.out.cell 1; have u2 := K0.out.cell 2
  simp at u0 u1 u2
  have zW : W.heap.size = w.heap.size + 1 := by rw [← hW]; simp
  generalize chkO fd msg fs = r at *
  cases fd with
  | true =>
    rw [if_pos rfl] at HM
    by_cases e1 : msg.size = 0
    · rw [decide_eq_true e1] at hem
      rw [if_pos (.inl e1)] at HM
      clear e1
      go_enter Tryd.func41, Tryd.ntmps41
      go_wp2_with fail
      go_ret
      exact ⟨ret_int HM.out.symm, HB.out⟩
    · rw [decide_eq_false e1] at hem
      by_cases e2 : 0 < n
      · rw [if_pos (.inr e2)] at HM
        have e2z : (0 : Int) < (n : Int) := by omega
        clear e1 e2
        go_enter Tryd.func41, Tryd.ntmps41
        go_wp2_with fail
        go_ret
        exact ⟨ret_int HM.out.symm, HB.out⟩
      · rw [if_neg (by omega)] at HM
        have e2z : ¬ (0 : Int) < (n : Int) := by omega
        by_cases e3 : 300 < msg.size
        · rw [if_pos e3] at HM
          have e3z : (300 : Int) < (msg.size : Int) := by omega
          clear e1 e2 e3
          go_enter Tryd.func41, Tryd.ntmps41
          go_wp2_with fail
          go_ret
          exact ⟨ret_int HM.out.symm, HB.out⟩
        · rw [if_neg e3] at HM
          have e3z : ¬ (300 : Int) < (msg.size : Int) := by omega
          clear e1 e2 e3
          go_enter Tryd.func41, Tryd.ntmps41
          go_wp2_with fail
          go_ret
          exact ⟨ret_int HM.out.symm, HB.out⟩
  | false =>
    rw [if_neg (by decide)] at HM
    by_cases e1 : msg.size = 0
    · rw [decide_eq_true e1] at hem
      rw [if_neg (by omega)] at HM
      clear e1
      by_cases e2 : 10 < n
      · rw [if_pos e2] at HM
        have e2z : (10 : Int) < (n : Int) := by omega
        clear e2
        go_enter Tryd.func41, Tryd.ntmps41
        go_wp2_with fail
        go_ret
        exact ⟨ret_int HM.out.symm, HB.out⟩
      · rw [if_neg e2] at HM
        have e2z : ¬ (10 : Int) < (n : Int) := by omega
        clear e2
        go_enter Tryd.func41, Tryd.ntmps41
        go_wp2_with fail
        go_loopw [30] (fun q wr => ∃ k : Nat, k ≤ n ∧ q = .int .i64 k ∧ Hid (r = chkF (prevF fs k) (fs.drop k)) ∧ Hid (Bk wr w.heap.size 62 #[.bool false, .string msg, .slice A n c]) ∧ Hid (Below w.heap.size w wr)) (fun q _ => n - (intOf q).toNat)
        case atStart => exact ⟨0, Nat.zero_le _, rfl, HM.out, K0.out, HB.out⟩
        case round =>
          obtain ⟨k, hk, rfl, hK, hBk, hBel⟩ := hrel
          by_cases hlt : k < n
          · obtain ⟨b, off, f, rfl, hb, hf, y0, y1⟩ := (H0.out.below hBel.out hB).fl hlt
            have hlz : (k : Int) < (n : Int) := by omega
            have hC := hK.out
            rw [chkF_at hf] at hC
            have HC := Lib.hid hC
            have HF := Lib.hid hf
            clear hC hf
            obtain ⟨W1, hW1⟩ : ∃ W1, wr.alloc (.cells #[.string f.1, .string f.2] 51) = W1 := ⟨_, rfl⟩
            have hwr := hBel.out.size
            have HB1 : Hid (Below w.heap.size w W1) := by rw [← hW1]; exact hBel.out.alloc hwr _
            have kf : Bk W1 wr.heap.size 51 #[.string f.1, .string f.2] := by rw [← hW1]; exact Bk.new wr _ _
            have ko : Bk W1 w.heap.size 62 #[.bool false, .string msg, .slice (some ⟨b, off, none⟩) n c] := by rw [← hW1]; exact hBk.out.alloc _
            have hz1 : W1.heap.size = wr.heap.size + 1 := by rw [← hW1]; simp
            have hoz := hBk.out.lt
            have x0 := kf.cell 0; simp at x0
            have KF := Lib.hid kf; have KO := Lib.hid ko
            have HFN := Lib.hid (fileName_any f.1 W1 (HFS.out f (List.mem_of_getElem? HF.out)))
            clear kf ko
            go_wp2_with fail
            refine HFN.out.mono ?_
            rintro e w2 ⟨rfl, hb2⟩
            have hz2 := hb2.size
            have KF2 := Lib.hid (KF.out.below hb2 (by omega)); have KO2 := Lib.hid (KO.out.below hb2 (by omega))
            have HB2 : Hid (Below w.heap.size w w2) := HB1.out.trans (hb2.mono (by omega))
            have x0 := KF2.out.cell 0; have x1 := KF2.out.cell 1; have x2 := KO2.out.cell 2
            simp at x0 x1 x2
            clear hb2 HFN KF KO
            cases hfn : fnB f.1 with
            | false =>
              have HE : Hid (r = 6) := by show _ = _; rw [HC.out, if_pos hfn]
              clear hfn
              go_wp2_with fail
              go_ret
              exact ⟨ret_int HE.out.symm, HB2.out⟩
            | true =>
              rw [hfn, if_neg (by decide)] at HC
              clear hfn
              by_cases hsz : 65536 < f.2.size
              · have hszz : (65536 : Int) < (f.2.size : Int) := by omega
                have HE : Hid (r = 4) := by show _ = _; rw [HC.out, if_pos hsz]
                clear hsz
                go_wp2_with fail
                go_ret
                exact ⟨ret_int HE.out.symm, HB2.out⟩
              · have hszz : ¬ (65536 : Int) < (f.2.size : Int) := by omega
                rw [if_neg hsz] at HC
                clear hsz
                cases k with
                | zero =>
                  have HN : Hid (r = chkF (prevF fs 1) (fs.drop 1)) := by
                    show _ = _
                    rw [HC.out, if_neg]
                    simp [prevF, okP]
                  go_wp2_with fail
                  go_quiet (fail)
                  go_wp2_with fail
                  go_roundw
                  case rel => exact ⟨1, by omega, by go_num, HN.out, KO2.out, below_drewN HB2.out _⟩
                  case measure => simp [intOf]; omega
                | succ k =>
                  obtain ⟨b', off', p, hbe, _, hp, p0, _⟩ := (H0.out.below HB2.out hB).fl (show k < n by omega)
                  cases hbe
                  obtain ⟨le, hle⟩ : ∃ le, (Op.bytesLess f.1.toList p.1.toList || f.1.toList == p.1.toList) = le := ⟨_, rfl⟩
                  have hls := le_not_less hle
                  have hpv : prevF fs (k + 1) = some p.1 := by unfold prevF; rw [if_neg (by omega), Nat.add_sub_cancel, hp]; rfl
                  rw [hpv, okP] at HC
                  have hg0 : decide ((0 : Int) < ((k + 1 : Nat) : Int)) = true := by rw [decide_eq_true_iff]; omega
                  clear hp hpv
                  rw [hls] at HC
                  clear hls
                  cases le with
                  | false =>
                    have HN : Hid (r = chkF (prevF fs (k + 1 + 1)) (fs.drop (k + 1 + 1))) := by show _ = _; rw [HC.out, if_neg (by decide)]
                    clear HC
                    go_wp2_with fail
                    go_quiet (fail)
                    go_wp2_with fail
                    go_roundw
                    case rel => exact ⟨k + 1 + 1, by omega, by go_num, HN.out, KO2.out, below_drewN HB2.out _⟩
                    case measure => simp [intOf]; omega
                  | true =>
                    have HE : Hid (r = 10) := by show _ = _; rw [HC.out, if_pos (by decide)]
                    clear HC
                    go_wp2_with fail
                    go_quiet (fail)
                    go_wp2_with fail
                    go_ret
                    exact ⟨ret_int HE.out.symm, below_drewN HB2.out _⟩
          · have hlz : ¬ (k : Int) < (n : Int) := by omega
            have HE : Hid (r = 0) := by
              show _ = _
              rw [hK.out, List.drop_of_length_le (by rw [HL.out]; omega), chkF]
            go_wp2_with fail
            go_ret
            exact ⟨ret_int HE.out.symm, hBel.out⟩
    · rw [decide_eq_false e1] at hem
      rw [if_pos e1] at HM
      clear e1
      go_enter Tryd.func41, Tryd.ntmps41
      go_wp2_with fail
      go_ret
      exact ⟨ret_int HM.out.symm, HB.out⟩
end Go.Proofs.YtiphbincnnppdaaDoor

namespace Go.Proofs.YtiphbincnnppdaaDoor
open Go.RowKit Go.Shelf

abbrev Ipt := ByteArray × Dig
def ipC (i : Ipt) : List Value := [.string i.1, .int .u64 i.2.1, .int .u64 i.2.2]
theorem ipC_len (i : Ipt) : (ipC i).length = 3 := rfl
theorem Sl.ip {w : World} {B n k : Nat} {A : Option Addr} {fs : List Ipt} (h : Sl w B 3 A n (flat ipC fs)) (hk : k < n) :
    ∃ b off f, A = some ⟨b, off, none⟩ ∧ b < B ∧ fs[k]? = some f ∧ w.cell? ⟨b, off + k * 3, none⟩ = some (.string f.1) ∧ w.cell? ⟨b, off + k * 3 + 1, none⟩ = some (.int .u64 f.2.1) ∧ w.cell? ⟨b, off + k * 3 + 2, none⟩ = some (.int .u64 f.2.2) := by
  obtain ⟨b, off, x, e, hb, hx, hc⟩ := h.at_ ipC_len (by omega) hk
  exact ⟨b, off, x, e, hb, hx, hc 0 _ rfl, hc 1 _ rfl, hc 2 _ rfl⟩
noncomputable def chkI : Option ByteArray → List Ipt → Int
  | _, [] => 0
  | p, f :: r => if fnB f.1 = false then 6 else if okP p f.1 = false then 10 else chkI (some f.1) r
noncomputable def chkA (kind : Int) (lab : ByteArray) (fs : List Ipt) : Int :=
  if ¬ (kind = 1 ∨ kind = 2 ∨ kind = 3) then 9 else if labB lab = false then 6 else if 300 < fs.length then 4 else chkI none fs
def prevI (fs : List Ipt) (k : Nat) : Option ByteArray := if k = 0 then none else (fs[k - 1]?).map Prod.fst
theorem chkI_at {fs : List Ipt} {k : Nat} {f : Ipt} (h : fs[k]? = some f) :
    chkI (prevI fs k) (fs.drop k) = if fnB f.1 = false then 6 else if okP (prevI fs k) f.1 = false then 10 else chkI (prevI fs (k + 1)) (fs.drop (k + 1)) := by
  have hk := (List.getElem?_eq_some_iff.1 h).1
  have e : fs.drop k = f :: fs.drop (k + 1) := by
    rw [List.drop_eq_getElem_cons hk]; congr 1; exact (List.getElem?_eq_some_iff.1 h).2
  rw [e, chkI]
  have : prevI fs (k + 1) = some f.1 := by unfold prevI; rw [if_neg (by omega), Nat.add_sub_cancel, h]; rfl
  rw [this]

set_option maxRecDepth 100000 in
set_option maxHeartbeats 4000000 in
theorem check_any (kind : Int) (lab : ByteArray) (A : Option Addr) (n c B : Nat) (fs : List Ipt) (w : World) (h0 : Sl w B 3 A n (flat ipC fs)) (hB : B ≤ w.heap.size) (hn : n ≤ maxLen) (hlab : lab.size ≤ maxLen) (hfs : ∀ f ∈ fs, f.1.size ≤ maxLen) :
    Calls Tryd.prog 18 #[.agg #[.int .i64 kind, .string lab, .slice A n c]] w fun e w' => e = .returned (.int .i64 (chkA kind lab fs)) ∧ Below w.heap.size w w' := by
  have HL := Lib.hid (h0.len ipC_len (by omega))
  have hn' : n ≤ 9223372036854775807 := by unfold maxLen at hn; exact hn
  have H0 := Lib.hid h0; have HFS := Lib.hid hfs
  clear h0 hfs
  have HM : Hid (chkA kind lab fs = if ¬ (kind = 1 ∨ kind = 2 ∨ kind = 3) then 9 else if labB lab = false then 6 else if 300 < fs.length then 4 else chkI none fs) := rfl
  rw [HL.out] at HM
  obtain ⟨W, hW⟩ : ∃ W, w.alloc (.cells #[.int .i64 kind, .string lab, .slice A n c] 44) = W := ⟨_, rfl⟩
  have HB : Hid (Below w.heap.size w W) := by rw [← hW]; exact (Below.refl w.heap.size w).alloc (Nat.le_refl _) _
  have K0 : Hid (Bk W w.heap.size 44 #[.int .i64 kind, .string lab, .slice A n c]) := by rw [← hW]; exact Bk.new w _ _
  have u0 := K0.out.cell 0; have u1 := K0.out.cell 1
  simp at u0 u1
  have zW : W.heap.size = w.heap.size + 1 := by rw [← hW]; simp
  have HLA := Lib.hid (label_any lab W hlab)
  generalize chkA kind lab fs = r at *
  by_cases hkd : kind = 1 ∨ kind = 2 ∨ kind = 3
  · rw [if_neg (not_not_intro hkd)] at HM
    have HT : Hid (∀ (Q : Prop), (kind = 1 → Q) → (kind = 2 → Q) → (kind = 3 → Q) → Q) := fun Q a b c => hkd.elim a (fun h => h.elim b c)
    clear hkd
    go_enter Tryd.func18, Tryd.ntmps18
    refine HT.out _ ?_ ?_ ?_
    all_goals
      intro hkd
      subst hkd
      go_wp2_with fail
      refine HLA.out.mono ?_
      rintro e w1 ⟨rfl, hb1⟩
      have hz1 := hb1.size
      have K1 := Lib.hid (K0.out.below hb1 (by omega))
      have HB1 : Hid (Below w.heap.size w w1) := HB.out.trans (hb1.mono (by omega))
      clear u0 u1 hb1 hW HLA
      have u2 := K1.out.cell 2
      simp at u2
      cases hl : labB lab with
      | false =>
        have HE : Hid (r = 6) := by show _ = _; rw [HM.out, if_pos hl]
        clear hl
        go_wp2_with fail
        go_ret
        exact ⟨ret_int HE.out.symm, HB1.out⟩
      | true =>
        rw [hl, if_neg (by decide)] at HM
        clear hl
        by_cases e2 : 300 < n
        · rw [if_pos e2] at HM
          have e2z : (300 : Int) < (n : Int) := by omega
          clear e2
          go_wp2_with fail
          go_ret
          exact ⟨ret_int HM.out.symm, HB1.out⟩
        · rw [if_neg e2] at HM
          have e2z : ¬ (300 : Int) < (n : Int) := by omega
          clear e2
          go_wp2_with fail
          go_loopw [29] (fun q wr => ∃ k : Nat, k ≤ n ∧ q = .int .i64 k ∧ Hid (r = chkI (prevI fs k) (fs.drop k)) ∧ (∃ kd, Hid (Bk wr w.heap.size 44 #[.int .i64 kd, .string lab, .slice A n c])) ∧ Hid (Below w.heap.size w wr)) (fun q _ => n - (intOf q).toNat)
          case atStart => exact ⟨0, Nat.zero_le _, rfl, HM.out, ⟨_, K1.out⟩, HB1.out⟩
          case round =>
            obtain ⟨k, hk, rfl, hK, ⟨kd, hBk⟩, hBel⟩ := hrel
            by_cases hlt : k < n
            · obtain ⟨b, off, f, rfl, hb, hf, y0, y1, y2⟩ := (H0.out.below hBel.out hB).ip hlt
              have hlz : (k : Int) < (n : Int) := by omega
              have hC := hK.out
              rw [chkI_at hf] at hC
              have HC := Lib.hid hC
              have HF := Lib.hid hf
              clear hC hf
              obtain ⟨W1, hW1⟩ : ∃ W1, wr.alloc (.cells #[.string f.1, .int .u64 f.2.1, .int .u64 f.2.2] 56) = W1 := ⟨_, rfl⟩
              have hwr := hBel.out.size
              have HB1 : Hid (Below w.heap.size w W1) := by rw [← hW1]; exact hBel.out.alloc hwr _
              have kf : Bk W1 wr.heap.size 56 #[.string f.1, .int .u64 f.2.1, .int .u64 f.2.2] := by rw [← hW1]; exact Bk.new wr _ _
              have ko : Bk W1 w.heap.size 44 #[.int .i64 kd, .string lab, .slice (some ⟨b, off, none⟩) n c] := by rw [← hW1]; exact hBk.out.alloc _
              have hz1 : W1.heap.size = wr.heap.size + 1 := by rw [← hW1]; simp
              have hoz := hBk.out.lt
              have x0 := kf.cell 0; simp at x0
              have KF := Lib.hid kf; have KO := Lib.hid ko
              have HFN := Lib.hid (fileName_any f.1 W1 (HFS.out f (List.mem_of_getElem? HF.out)))
              clear kf ko
              go_wp2_with fail
              refine HFN.out.mono ?_
              rintro e w2 ⟨rfl, hb2⟩
              have hz2 := hb2.size
              have KF2 := Lib.hid (KF.out.below hb2 (by omega)); have KO2 := Lib.hid (KO.out.below hb2 (by omega))
              have HB2 : Hid (Below w.heap.size w w2) := HB1.out.trans (hb2.mono (by omega))
              have x0 := KF2.out.cell 0; have x2 := KO2.out.cell 2
              simp at x0 x2
              clear hb2 HFN KF KO
              cases hfn : fnB f.1 with
              | false =>
                have HE : Hid (r = 6) := by show _ = _; rw [HC.out, if_pos hfn]
                clear hfn
                go_wp2_with fail
                go_ret
                exact ⟨ret_int HE.out.symm, HB2.out⟩
              | true =>
                rw [hfn, if_neg (by decide)] at HC
                clear hfn
                cases k with
                | zero =>
                  have HN : Hid (r = chkI (prevI fs 1) (fs.drop 1)) := by
                    show _ = _
                    rw [HC.out, if_neg]
                    simp [prevI, okP]
                  go_wp2_with fail
                  go_quiet (fail)
                  go_wp2_with fail
                  go_roundw
                  case rel => exact ⟨1, by omega, by go_num, HN.out, ⟨_, KO2.out⟩, below_drewN HB2.out _⟩
                  case measure => simp [intOf]; omega
                | succ k =>
                  obtain ⟨b', off', p, hbe, _, hp, p0, _⟩ := (H0.out.below HB2.out hB).ip (show k < n by omega)
                  cases hbe
                  obtain ⟨le, hle⟩ : ∃ le, (Op.bytesLess f.1.toList p.1.toList || f.1.toList == p.1.toList) = le := ⟨_, rfl⟩
                  have hls := le_not_less hle
                  have hpv : prevI fs (k + 1) = some p.1 := by unfold prevI; rw [if_neg (by omega), Nat.add_sub_cancel, hp]; rfl
                  rw [hpv, okP] at HC
                  have hg0 : decide ((0 : Int) < ((k + 1 : Nat) : Int)) = true := by rw [decide_eq_true_iff]; omega
                  clear hp hpv
                  rw [hls] at HC
                  clear hls
                  cases le with
                  | false =>
                    have HN : Hid (r = chkI (prevI fs (k + 1 + 1)) (fs.drop (k + 1 + 1))) := by show _ = _; rw [HC.out, if_neg (by decide)]
                    clear HC
                    go_wp2_with fail
                    go_quiet (fail)
                    go_wp2_with fail
                    go_roundw
                    case rel => exact ⟨k + 1 + 1, by omega, by go_num, HN.out, ⟨_, KO2.out⟩, below_drewN HB2.out _⟩
                    case measure => simp [intOf]; omega
                  | true =>
                    have HE : Hid (r = 10) := by show _ = _; rw [HC.out, if_pos (by decide)]
                    clear HC
                    go_wp2_with fail
                    go_quiet (fail)
                    go_wp2_with fail
                    go_ret
                    exact ⟨ret_int HE.out.symm, below_drewN HB2.out _⟩
            · have hlz : ¬ (k : Int) < (n : Int) := by omega
              have HE : Hid (r = 0) := by
                show _ = _
                rw [hK.out, List.drop_of_length_le (by rw [HL.out]; omega), chkI]
              go_wp2_with fail
              go_ret
              exact ⟨ret_int HE.out.symm, hBel.out⟩
  · have HE : Hid (r = 9) := by show _ = _; rw [HM.out, if_pos hkd]
    have h1 : (kind != 1) = true := by rw [bne_iff_ne]; omega
    have h2 : (kind != 2) = true := by rw [bne_iff_ne]; omega
    have h3 : (kind != 3) = true := by rw [bne_iff_ne]; omega
    clear hkd
    go_enter Tryd.func18, Tryd.ntmps18
    go_wp2_with fail
    go_ret
    exact ⟨ret_int HE.out.symm, HB.out⟩
end Go.Proofs.YtiphbincnnppdaaDoor

namespace Go.Proofs.YtiphbincnnppdaaDoor
open Go.RowKit

@[go_sem] theorem guardDig : Tryd.prog.eqGuardType Tryd.prog.depth 54 = false := by kernel_rfl
theorem eqDig0 (dd : Nat) (a b c d : Int) (w : World) : (Op.equalIn (dd + 2) 54 (.agg #[.int .u64 a, .int .u64 b]) (.agg #[.int .u64 c, .int .u64 d])).run Tryd.prog w = .ok (a == c && b == d) w := by
  have u3 := Tryd.underlying52
  have a3 := Tryd.isAgg52
  have z3 := Tryd.sizeOf52
  rw [Op.equalIn]
  simp only [Sem.run_bind, run_underlying Tryd.underlying54, Result.andThen_ok]
  simp only [Std.Legacy.Range.forIn_eq_forIn_range', Std.Legacy.Range.size, Nat.sub_zero, Nat.add_sub_cancel, Nat.div_one, List.range'_succ, List.range'_zero, List.forIn_cons, List.forIn_nil]
  go_simp
  by_cases h1 : a = c <;> by_cases h2 : b = d <;> simp [h1, h2]
@[go_sem high] theorem eqDig (a b c d : Int) (w : World) : (Op.equalIn 10000 54 (.agg #[.int .u64 a, .int .u64 b]) (.agg #[.int .u64 c, .int .u64 d])).run Tryd.prog w = .ok (a == c && b == d) w := eqDig0 9998 a b c d w

def dg1 (h b : Int) : Int := IntKind.u64.wrap (bits .xor .u64 h b * 1099511628211)
def dg2 (h b : Int) : Int := bits .xor .u64 (IntKind.u64.wrap (h * 1099511628211)) b
def dgF (g : Int → Int → Int) (l : Bytes) : Int := l.foldl (fun h b => g h (IntKind.u64.wrap (b.toNat : Int))) 14695981039346656037
/-- the digest of bytes -/
def ofB (l : Bytes) : Dig := if dgF dg1 l = 0 ∧ dgF dg2 l = 0 then (0, 1) else (dgF dg1 l, dgF dg2 l)
theorem dgF_snoc (g : Int → Int → Int) {l : Bytes} {k : Nat} (hk : k < l.length) : dgF g (l.take (k + 1)) = g (dgF g (l.take k)) (IntKind.u64.wrap (l[k].toNat : Int)) := by
  unfold dgF; rw [take_snoc (List.getElem?_eq_getElem hk), List.foldl_append]; rfl

set_option maxHeartbeats 1000000 in
theorem of1_any (h b : Int) (w : World) : Calls Tryd.prog 61 #[.int .u64 h, .int .u64 b] w fun e w' => e = .returned (.int .u64 (dg1 h b)) ∧ w = w' := by
  go_enter Tryd.func61, Tryd.ntmps61
  go_wp2
  go_ret
  exact ⟨rfl, rfl⟩
set_option maxHeartbeats 1000000 in
theorem of2_any (h b : Int) (w : World) : Calls Tryd.prog 62 #[.int .u64 h, .int .u64 b] w fun e w' => e = .returned (.int .u64 (dg2 h b)) ∧ w = w' := by
  go_enter Tryd.func62, Tryd.ntmps62
  go_wp2
  go_ret
  exact ⟨rfl, rfl⟩
set_option maxRecDepth 100000 in
set_option maxHeartbeats 1000000 in
theorem hash1_any (s : ByteArray) (w : World) (hs : s.size ≤ maxLen) :
    Calls Tryd.prog 60 #[.string s, .func (.func 61) #[] #[]] w fun e w' => e = .returned (.int .u64 (dgF dg1 (toL s))) ∧ w = w' := by
  have hs' : s.size ≤ 9223372036854775807 := by unfold maxLen at hs; exact hs
  go_enter Tryd.func60, Tryd.ntmps60
  go_wp2
  go_loop [5, 9] (fun q5 q9 => ∃ k : Nat, k ≤ s.size ∧ q9 = .int .i64 k ∧ q5 = .int .u64 (dgF dg1 ((toL s).take k))) (fun _ q9 => s.size - (intOf q9).toNat)
  case atStart => exact ⟨0, Nat.zero_le _, rfl, rfl⟩
  case round =>
    obtain ⟨k, hk, rfl, rfl⟩ := hrel
    by_cases hlt : k < s.size
    · have hlz : (k : Int) < (s.size : Int) := by omega
      have hkl : k < (toL s).length := by rw [← size_toL]; exact hlt
      have HN : Hid (dgF dg1 ((toL s).take (k + 1)) = dg1 (dgF dg1 ((toL s).take k)) (IntKind.u64.wrap (s[k].toNat : Int))) := dgF_snoc dg1 hkl
      generalize dgF dg1 ((toL s).take k) = h0 at *
      go_wp2_with fail
      refine (of1_any _ _ _).mono ?_
      rintro e w1 ⟨rfl, rfl⟩
      go_wp2_with fail
      go_round
      case rel => exact ⟨k + 1, by omega, by go_num, by rw [HN.out]; rfl⟩
      case measure => simp [intOf]; omega
    · have hlz : ¬ (k : Int) < (s.size : Int) := by omega
      have HE : Hid ((toL s).take k = toL s) := List.take_of_length_le (by rw [← size_toL]; omega)
      go_wp2_with fail
      go_ret
      exact ⟨by rw [HE.out]; rfl, rfl⟩
set_option maxRecDepth 100000 in
set_option maxHeartbeats 1000000 in
theorem hash2_any (s : ByteArray) (w : World) (hs : s.size ≤ maxLen) :
    Calls Tryd.prog 60 #[.string s, .func (.func 62) #[] #[]] w fun e w' => e = .returned (.int .u64 (dgF dg2 (toL s))) ∧ w = w' := by
  have hs' : s.size ≤ 9223372036854775807 := by unfold maxLen at hs; exact hs
  go_enter Tryd.func60, Tryd.ntmps60
  go_wp2
  go_loop [5, 9] (fun q5 q9 => ∃ k : Nat, k ≤ s.size ∧ q9 = .int .i64 k ∧ q5 = .int .u64 (dgF dg2 ((toL s).take k))) (fun _ q9 => s.size - (intOf q9).toNat)
  case atStart => exact ⟨0, Nat.zero_le _, rfl, rfl⟩
  case round =>
    obtain ⟨k, hk, rfl, rfl⟩ := hrel
    by_cases hlt : k < s.size
    · have hlz : (k : Int) < (s.size : Int) := by omega
      have hkl : k < (toL s).length := by rw [← size_toL]; exact hlt
      have HN : Hid (dgF dg2 ((toL s).take (k + 1)) = dg2 (dgF dg2 ((toL s).take k)) (IntKind.u64.wrap (s[k].toNat : Int))) := dgF_snoc dg2 hkl
      generalize dgF dg2 ((toL s).take k) = h0 at *
      go_wp2_with fail
      refine (of2_any _ _ _).mono ?_
      rintro e w1 ⟨rfl, rfl⟩
      go_wp2_with fail
      go_round
      case rel => exact ⟨k + 1, by omega, by go_num, by rw [HN.out]; rfl⟩
      case measure => simp [intOf]; omega
    · have hlz : ¬ (k : Int) < (s.size : Int) := by omega
      have HE : Hid ((toL s).take k = toL s) := List.take_of_length_le (by rw [← size_toL]; omega)
      go_wp2_with fail
      go_ret
      exact ⟨by rw [HE.out]; rfl, rfl⟩
theorem res_cellD {fn : Func} {c : Tmp} (h : fn.results = #[.cell c 54]) {w : World} {a : Array Value} {b : Nat} {x y : Value} (ha : a[c]?.getD undef = .pointer (some ⟨b, 0, none⟩)) (hk : Bk w b 54 #[x, y]) :
    (results fn a).run Tryd.prog w = .ok (.agg #[x, y]) w := by
  have h0 := hk.cell 0; have h1 := hk.cell 1
  simp at h0 h1
  simp [results, h, ha, go_sem, h0, h1]
def digV (d : Dig) : Value := .agg #[.int .u64 d.1, .int .u64 d.2]
def OfEnd (s : ByteArray) (w : World) (e : Ending) (w' : World) : Prop := e = .returned (digV (ofB (toL s))) ∧ Below w.heap.size w w'
set_option maxRecDepth 100000 in
set_option maxHeartbeats 2000000 in
theorem of_any (s : ByteArray) (w : World) (hs : s.size ≤ maxLen) : Calls Tryd.prog 37 #[.string s] w (OfEnd s w) := by
  have HE : Hid (ofB (toL s) = if dgF dg1 (toL s) = 0 ∧ dgF dg2 (toL s) = 0 then (0, 1) else (dgF dg1 (toL s), dgF dg2 (toL s))) := rfl
  have H1 := Lib.hid (hash1_any s (w.alloc (.cells #[.int .u64 0, .int .u64 0] 54)) hs)
  have H2 := Lib.hid (hash2_any s (w.alloc (.cells #[.int .u64 0, .int .u64 0] 54)) hs)
  have HV : Hid (∀ q, ofB (toL s) = q → ∀ e w', e = Ending.returned (digV q) → Below w.heap.size w w' → OfEnd s w e w') := fun q h e w' h1 h2 => by subst h; exact ⟨h1, h2⟩
  generalize dgF dg1 (toL s) = x at *
  generalize dgF dg2 (toL s) = y at *
  go_enter Tryd.func37, Tryd.ntmps37
  go_wp2_with fail
  refine H1.out.mono ?_
  rintro e w1 ⟨rfl, rfl⟩
  go_wp2_with fail
  refine H2.out.mono ?_
  rintro e w1 ⟨rfl, rfl⟩
  obtain ⟨W, hW⟩ : ∃ W, (w.alloc (.cells #[.int .u64 0, .int .u64 0] 54)).alloc (.cells #[.int .u64 x, .int .u64 y] 54) = W := ⟨_, rfl⟩
  have K0 : Hid (Bk W w.heap.size 54 #[.int .u64 0, .int .u64 0]) := by rw [← hW]; exact (Bk.new w _ _).alloc _
  have K1 : Hid (Bk W (w.heap.size + 1) 54 #[.int .u64 x, .int .u64 y]) := by
    rw [← hW]
    have := Bk.new (w.alloc (.cells #[.int .u64 0, .int .u64 0] 54)) 54 #[.int .u64 x, .int .u64 y]
    rw [World.size_alloc] at this
    exact this
  have HB : Hid (Below w.heap.size w W) := by rw [← hW]; exact ((Below.refl _ w).alloc (Nat.le_refl _) _).alloc (by simp) _
  have u0 := K0.out.cell 0; have u1 := K0.out.cell 1; have v0 := K1.out.cell 0; have v1 := K1.out.cell 1
  simp at u0 u1 v0 v1
  have f0 := K0.out.free 0; have f1 := K0.out.free 1; have g1 := K1.out.free 1
  clear H1 H2
  by_cases hz : x = 0 ∧ y = 0
  · have hb : (x == 0 && y == 0) = true := by simp [hz]
    have HQ : Hid (ofB (toL s) = (x, 1)) := by show _ = _; rw [HE.out, if_pos hz, hz.1]
    clear hz
    have W2 : Hid (Bk (W.setCell ⟨w.heap.size + 1, 1, none⟩ (.int .u64 1)) (w.heap.size + 1) 54 #[.int .u64 x, .int .u64 1]) := by
      have := K1.out.set 1 (.int .u64 1); show Bk _ _ _ _; simpa using this
    have KF : Hid (Bk (W.setCell ⟨w.heap.size + 1, 1, none⟩ (.int .u64 1)) w.heap.size 54 #[.int .u64 0, .int .u64 0]) := K0.out.far (by simp) _
    have a0 := W2.out.cell 0; have a1 := W2.out.cell 1; have b0 := KF.out.cell 0; have b1 := KF.out.cell 1
    simp at a0 a1 b0 b1
    have d0 := KF.out.free 0; have d1 := KF.out.free 1
    clear HE
    go_wp2_with fail
    refine bodyPost_ret (res_cellD Tryd.results37 rfl (KF.out.set2 _ _)) rfl ?_
    exact HV.out _ HQ.out _ _ rfl (below_set2 (HB.out.setCell (p := ⟨w.heap.size + 1, 1, none⟩) (by simp) _) (Nat.le_refl _) _ _)
  · have hb : (x == 0 && y == 0) = false := by
      rw [Bool.eq_false_iff]; intro h; simp at h; exact hz h
    have HQ : Hid (ofB (toL s) = (x, y)) := by show _ = _; rw [HE.out, if_neg hz]
    clear hz HE
    go_wp2_with fail
    refine bodyPost_ret (res_cellD Tryd.results37 rfl (K0.out.set2 _ _)) rfl ?_
    exact HV.out _ HQ.out _ _ rfl (below_set2 HB.out (Nat.le_refl _) _ _)

set_option maxRecDepth 100000 in
set_option maxHeartbeats 2000000 in
theorem rof_any (s : ByteArray) (w : World) (hs : s.size ≤ maxLen) : Calls Tryd.prog 19 #[.string s] w (OfEnd s w) := by
  have hs' : s.size ≤ 9223372036854775807 := by unfold maxLen at hs; exact hs
  have HE : Hid (ofB (toL s) = if dgF dg1 (toL s) = 0 ∧ dgF dg2 (toL s) = 0 then (0, 1) else (dgF dg1 (toL s), dgF dg2 (toL s))) := rfl
  have HV : Hid (∀ q, ofB (toL s) = q → ∀ e w', e = Ending.returned (digV q) → Below w.heap.size w w' → OfEnd s w e w') := fun q h e w' h1 h2 => by subst h; exact ⟨h1, h2⟩
  obtain ⟨W, hW⟩ : ∃ W, w.alloc (.cells #[.int .u64 0, .int .u64 0] 54) = W := ⟨_, rfl⟩
  have K0 : Hid (Bk W w.heap.size 54 #[.int .u64 0, .int .u64 0]) := by rw [← hW]; exact Bk.new w _ _
  have HB : Hid (Below w.heap.size w W) := by rw [← hW]; exact (Below.refl _ w).alloc (Nat.le_refl _) _
  have u0 := K0.out.cell 0; have u1 := K0.out.cell 1
  simp at u0 u1
  have f0 := K0.out.free 0; have f1 := K0.out.free 1
  go_enter Tryd.func19, Tryd.ntmps19
  go_wp2
  go_loop [3, 4, 5] (fun q3 q4 q5 => ∃ k : Nat, k ≤ s.size ∧ q5 = .int .i64 k ∧ q3 = .int .u64 (dgF dg1 ((toL s).take k)) ∧ q4 = .int .u64 (dgF dg2 ((toL s).take k))) (fun _ _ q5 => s.size - (intOf q5).toNat)
  case atStart => exact ⟨0, Nat.zero_le _, rfl, rfl, rfl⟩
  case round =>
    obtain ⟨k, hk, rfl, rfl, rfl⟩ := hrel
    by_cases hlt : k < s.size
    · have hlz : (k : Int) < (s.size : Int) := by omega
      have hkl : k < (toL s).length := by rw [← size_toL]; exact hlt
      have HN1 : Hid (dgF dg1 ((toL s).take (k + 1)) = dg1 (dgF dg1 ((toL s).take k)) (IntKind.u64.wrap (s[k].toNat : Int))) := dgF_snoc dg1 hkl
      have HN2 : Hid (dgF dg2 ((toL s).take (k + 1)) = dg2 (dgF dg2 ((toL s).take k)) (IntKind.u64.wrap (s[k].toNat : Int))) := dgF_snoc dg2 hkl
      generalize dgF dg1 ((toL s).take k) = x at *
      generalize dgF dg2 ((toL s).take k) = y at *
      go_wp2_with fail
      go_round
      case rel => exact ⟨k + 1, by omega, by go_num, by rw [HN1.out]; rfl, by rw [HN2.out]; rfl⟩
      case measure => simp [intOf]; omega
    · have hlz : ¬ (k : Int) < (s.size : Int) := by omega
      have hE : (toL s).take k = toL s := List.take_of_length_le (by rw [← size_toL]; omega)
      rw [hE]
      clear hE
      generalize dgF dg1 (toL s) = x at *
      generalize dgF dg2 (toL s) = y at *
      by_cases hz : x = 0 ∧ y = 0
      · have HQ : Hid (ofB (toL s) = (0, 1)) := by show _ = _; rw [HE.out, if_pos hz]
        obtain ⟨rfl, rfl⟩ := hz
        clear HE
        go_wp2_with fail
        refine bodyPost_ret (res_cellD Tryd.results19 rfl (K0.out.set2 _ _)) rfl ?_
        exact HV.out _ HQ.out _ _ rfl (below_set2 HB.out (Nat.le_refl _) _ _)
      · have HQ : Hid (ofB (toL s) = (x, y)) := by show _ = _; rw [HE.out, if_neg hz]
        clear HE
        by_cases hx : x = 0
        · have hy : (y == 0) = false := by rw [beq_eq_false_iff_ne]; exact fun h => hz ⟨hx, h⟩
          subst hx
          clear hz
          go_wp2_with fail
          refine bodyPost_ret (res_cellD Tryd.results19 rfl (K0.out.set2 _ _)) rfl ?_
          exact HV.out _ HQ.out _ _ rfl (below_set2 HB.out (Nat.le_refl _) _ _)
        · have hxb : (x == 0) = false := by rw [beq_eq_false_iff_ne]; exact hx
          clear hz hx
          go_wp2_with fail
          refine bodyPost_ret (res_cellD Tryd.results19 rfl (K0.out.set2 _ _)) rfl ?_
          exact HV.out _ HQ.out _ _ rfl (below_set2 HB.out (Nat.le_refl _) _ _)
end Go.Proofs.YtiphbincnnppdaaDoor

namespace Go.Proofs.YtiphbincnnppdaaDoor
open Go.RowKit Go.Maps

/-- the data of the first file with a path -/
def lookF : List Fl → ByteArray → Option ByteArray
  | [], _ => none
  | f :: fs, s => if f.1 = s then some f.2 else lookF fs s
theorem lookF_snoc : ∀ (fs : List Fl) (f : Fl) (s : ByteArray), lookF (fs ++ [f]) s = match lookF fs s with | some d => some d | none => if f.1 = s then some f.2 else none
  | [], f, s => by simp [lookF]
  | r :: fs, f, s => by
    simp only [List.cons_append, lookF]
    by_cases e : r.1 = s
    · simp [e]
    · rw [if_neg e, if_neg e, lookF_snoc fs f s]
theorem lookF_mem : ∀ {fs : List Fl} {s d : ByteArray}, lookF fs s = some d → (s, d) ∈ fs
  | [], _, _, h => by cases h
  | r :: fs, s, d, h => by
    simp only [lookF] at h
    by_cases e : r.1 = s
    · rw [if_pos e] at h; cases h; rw [← e]; simp
    · rw [if_neg e] at h; exact List.mem_cons_of_mem _ (lookF_mem h)
/-- what the map of data holds -/
def filG (fs : List Fl) : ByteArray → Option Value := fun s => (lookF fs s).map Value.string
theorem filG_nil : filG [] = fun _ => none := rfl
theorem filG_some (fs : List Fl) (s : ByteArray) : (filG fs s).isSome = (lookF fs s).isSome := by unfold filG; simp
theorem filG_skip {fs : List Fl} {f : Fl} (h : (lookF fs f.1).isSome = true) : filG (fs ++ [f]) = filG fs := by
  funext s
  show (lookF (fs ++ [f]) s).map Value.string = (lookF fs s).map Value.string
  rw [lookF_snoc]
  cases hs : lookF fs s with
  | some d => rfl
  | none =>
    have : ¬ f.1 = s := fun e => by rw [e, hs] at h; cases h
    simp [this]
theorem filG_put {fs : List Fl} {f : Fl} (h : (lookF fs f.1).isSome = false) : filG (fs ++ [f]) = upd (filG fs) f.1 (.string f.2) := by
  have hn : lookF fs f.1 = none := by
    cases hs : lookF fs f.1 with
    | some d => rw [hs] at h; cases h
    | none => rfl
  funext s
  show (lookF (fs ++ [f]) s).map Value.string = if s = f.1 then some (.string f.2) else (lookF fs s).map Value.string
  rw [lookF_snoc]
  by_cases e : s = f.1
  · subst e; rw [hn]; simp
  · rw [if_neg e]
    cases hs : lookF fs s with
    | some d => rfl
    | none => simp [Ne.symm e]
/-- the files of the names, and the error -/
def mkG (fs acc : List Fl) : List ByteArray → List Fl × Int
  | [] => (acc, 0)
  | s :: r => match lookF fs s with
    | none => ([], 8)
    | some d => if 65536 < d.size then ([], 4) else mkG fs (acc ++ [(s, d)]) r
theorem mkG_none {fs acc : List Fl} {s : ByteArray} {r : List ByteArray} (h : lookF fs s = none) : mkG fs acc (s :: r) = ([], 8) := by simp [mkG, h]
theorem mkG_long {fs acc : List Fl} {s d : ByteArray} {r : List ByteArray} (h : lookF fs s = some d) (hd : 65536 < d.size) : mkG fs acc (s :: r) = ([], 4) := by simp [mkG, h, hd]
theorem mkG_next {fs acc : List Fl} {s d : ByteArray} {r : List ByteArray} (h : lookF fs s = some d) (hd : ¬ 65536 < d.size) : mkG fs acc (s :: r) = mkG fs (acc ++ [(s, d)]) r := by simp [mkG, h, hd]
theorem drop_at {l : List ByteArray} {k : Nat} {x : ByteArray} (h : l[k]? = some x) : l.drop k = x :: l.drop (k + 1) := by
  rw [List.drop_eq_getElem_cons (List.getElem?_eq_some_iff.1 h).1, (List.getElem?_eq_some_iff.1 h).2]
/-- What Make answers: the files, in the order of the names, and the error. -/
def MkR (ts : List Tg) (lab : ByteArray) (kd : Int) (fs out : List Fl) (err : Int) : Prop :=
  ∃ l e, InpR ts lab kd l e ∧ ((e ≠ 0 ∧ out = [] ∧ err = e) ∨ (e = 0 ∧ mkG fs [] l = (out, err)))
theorem MkR.same {ts : List Tg} {lab : ByteArray} {kd : Int} {fs out out2 : List Fl} {err err2 : Int} (h : MkR ts lab kd fs out err) (g : MkR ts lab kd fs out2 err2) : out = out2 ∧ err = err2 := by
  obtain ⟨l, e, h1, h2⟩ := h
  obtain ⟨m, f, g1, g2⟩ := g
  obtain ⟨rfl, rfl⟩ := h1.same g1
  rcases h2 with ⟨a1, rfl, rfl⟩ | ⟨a1, a2⟩
  · rcases g2 with ⟨_, rfl, rfl⟩ | ⟨b1, _⟩
    · exact ⟨rfl, rfl⟩
    · exact absurd b1 a1
  · rcases g2 with ⟨b1, _⟩ | ⟨_, b2⟩
    · exact absurd a1 b1
    · rw [a2] at b2
      exact ⟨(Prod.mk.inj b2).1, (Prod.mk.inj b2).2⟩
/-- an input: the name and the digest of the data -/
def ipF (f : Fl) : Ipt := (f.1, ofB (toL f.2))
/-- What Make hands back, in memory. -/
def RdyIn (w : World) (kd : Int) (lab : ByteArray) (out : List Fl) (err : Int) (k : Int) (l : ByteArray) (A1 : Option Addr) (n1 : Nat) (A2 : Option Addr) (n2 : Nat) : Prop :=
  k = (if err = 0 then kd else 0) ∧ l = (if err = 0 then lab else ⟨#[]⟩) ∧ Sl w w.heap.size 3 A1 n1 (flat ipC (out.map ipF)) ∧ Sl w w.heap.size 2 A2 n2 (flat flC out)
def MkEnd (ts : List Tg) (lab : ByteArray) (kd : Int) (fs : List Fl) (w : World) (e : Ending) (w' : World) : Prop :=
  ∃ k l A1 n1 c1 A2 n2 c2 out err, e = .returned (.tuple #[.agg #[.int .i64 k, .string l, .slice A1 n1 c1, .slice A2 n2 c2], .int .i64 err]) ∧ RdyIn w' kd lab out err k l A1 n1 A2 n2 ∧ n1 ≤ c1 ∧ c1 ≤ maxLen ∧ n2 ≤ c2 ∧ c2 ≤ maxLen ∧ MkR ts lab kd fs out err ∧ Below w.heap.size w w'
theorem MkEnd.none_ {ts : List Tg} {lab : ByteArray} {kd : Int} {fs : List Fl} {w w' : World} {err : Int} (h : MkR ts lab kd fs [] err) (he : err ≠ 0) (hb : Below w.heap.size w w') :
    MkEnd ts lab kd fs w (.returned (.tuple #[.agg #[.int .i64 0, .string ⟨#[]⟩, .slice none 0 0, .slice none 0 0], .int .i64 err])) w' :=
  ⟨0, ⟨#[]⟩, none, 0, 0, none, 0, 0, [], err, rfl, ⟨(if_neg he).symm, (if_neg he).symm, Sl.nil _ _ _ _, Sl.nil _ _ _ _⟩, Nat.le_refl _, Nat.zero_le _, Nat.le_refl _, Nat.zero_le _, h, hb⟩
end Go.Proofs.YtiphbincnnppdaaDoor

namespace Go.Proofs.YtiphbincnnppdaaDoor
open Go.RowKit Go.Shelf

set_option maxHeartbeats 400000 in
theorem rletter_any (c : Int) (w : World) : Calls Tryd.prog 89 #[.int .u8 c] w fun e w' => e = .returned (.bool (ltrI c)) ∧ w = w' := by
  go_enter Tryd.func89, Tryd.ntmps89
  go_wp2
  all_goals (go_ret; refine ⟨ret_bool ?_, rfl⟩; rw [Bool.eq_iff_iff]; simp [ltrI]; try omega)
set_option maxHeartbeats 400000 in
theorem rdigit_any (c : Int) (w : World) : Calls Tryd.prog 90 #[.int .u8 c] w fun e w' => e = .returned (.bool (dgtI c)) ∧ w = w' := by
  go_enter Tryd.func90, Tryd.ntmps90
  go_wp2
  all_goals (go_ret; refine ⟨ret_bool ?_, rfl⟩; rw [Bool.eq_iff_iff]; simp [dgtI]; try omega)

/-- the index of the first slash, or the length -/
def slashL : List UInt8 → Nat
  | [] => 0
  | c :: r => if c = 47 then 0 else slashL r + 1
theorem slashL_le : ∀ l : List UInt8, slashL l ≤ l.length
  | [] => Nat.le_refl _
  | c :: r => by simp only [slashL]; split; simp; have := slashL_le r; simp; omega
theorem slashL_at : ∀ {l : List UInt8} {k : Nat}, (∀ j, j < k → l[j]? ≠ some 47) → k ≤ l.length → (k = l.length ∨ l[k]? = some 47) → slashL l = k
  | [], k, _, h, _ => by simp at h; simp [slashL, h]
  | c :: r, 0, _, _, h3 => by
    rcases h3 with h3 | h3
    · simp at h3
    · simp at h3; simp [slashL, h3]
  | c :: r, k + 1, h1, h2, h3 => by
    have hc : c ≠ 47 := fun e => h1 0 (by omega) (by simp [e])
    simp only [slashL, if_neg hc]
    rw [slashL_at (k := k) (fun j hj => by have := h1 (j + 1) (by omega); simpa using this) (by simp at h2; omega) (by
      rcases h3 with h3 | h3
      · left; simp at h3; omega
      · right; simpa using h3)]
theorem splitS_slash : ∀ (l : List UInt8), splitS l = if slashL l < l.length then l.take (slashL l) :: splitS (l.drop (slashL l + 1)) else [l]
  | [] => rfl
  | c :: r => by
    by_cases hc : c = 47
    · subst hc; simp [splitS, slashL]
    · have ih := splitS_slash r
      simp only [splitS, slashL, if_neg hc]
      rw [ih]
      by_cases h : slashL r < r.length
      · rw [if_pos h, if_pos (by simp; exact h)]; simp
      · rw [if_neg h, if_neg (by simp; omega)]

set_option maxHeartbeats 1000000 in
theorem rslash_any (s : ByteArray) (w : World) (hs : s.size ≤ maxLen) :
    Calls Tryd.prog 58 #[.string s] w fun e w' => e = .returned (.int .i64 (slashL (bl s) : Nat)) ∧ w = w' := by
  unfold maxLen at hs
  have HL := Lib.hid (size_len s)
  go_enter Tryd.func58, Tryd.ntmps58
  go_wp2
  go_loop [3] (fun i => ∃ k : Nat, k ≤ s.size ∧ i = .int .i64 k ∧ Hid (∀ j, j < k → (bl s)[j]? ≠ some 47)) (fun i => s.size - (intOf i).toNat)
  case atStart => exact ⟨0, Nat.zero_le _, rfl, fun j h => absurd h (by omega)⟩
  case round =>
    obtain ⟨k, hk, rfl, hN⟩ := hrel
    by_cases hlt : k < s.size
    · have hg := Lib.hid (get_data s k hlt)
      have hlz : (k : Int) < (s.size : Int) := by omega
      by_cases h47 : s[k] = 47
      · have t1 : (((s[k].toNat : Nat) : Int) != 47) = false := by simp [h47]
        have HF : Hid (slashL (bl s) = k) := slashL_at hN.out (by unfold bl; rw [← HL.out]; exact hk) (.inr (by show s.data.toList[k]? = _; rw [hg.out, h47]))
        clear h47
        go_wp2
        go_ret
        exact ⟨by rw [HF.out]; rfl, rfl⟩
      · have t1 : (((s[k].toNat : Nat) : Int) != 47) = true := by
          rw [bne_iff_ne]; intro e
          apply h47
          apply UInt8.toNat_inj.1
          show s[k].toNat = 47
          omega
        have HF : Hid (∀ j, j < k + 1 → (bl s)[j]? ≠ some 47) := fun j hj => by
          by_cases e : j = k
          · subst e; show s.data.toList[j]? ≠ _; rw [hg.out]; intro e2; exact h47 (Option.some.inj e2)
          · exact hN.out j (by omega)
        clear h47
        go_wp2
        go_round
        case rel => exact ⟨k + 1, hlt, by go_num, HF.out⟩
        case measure => simp [intOf]; omega
    · have hlz : ¬ (k : Int) < (s.size : Int) := by omega
      have HF : Hid (slashL (bl s) = k) := slashL_at hN.out (by unfold bl; rw [← HL.out]; exact hk) (.inl (by unfold bl; rw [← HL.out]; omega))
      go_wp2
      go_ret
      exact ⟨by rw [HF.out]; rfl, rfl⟩

set_option maxHeartbeats 2000000 in
theorem rword_any (s : ByteArray) (w : World) (hs : s.size ≤ maxLen) :
    Calls Tryd.prog 59 #[.string s, .int .i64 20] w fun e w' => e = .returned (.bool (partB s)) ∧ w = w' := by
  unfold maxLen at hs
  have HL := Lib.hid (size_len s)
  by_cases c0 : (s.size : Int) < 1
  · have hv : Hid (partB s = false) := by
      show _ = _
      have : bl s = [] := List.eq_nil_of_length_eq_zero (by have := HL.out; unfold bl; omega)
      unfold partB partL; rw [this]; rfl
    go_enter Tryd.func59, Tryd.ntmps59
    go_wp2
    go_ret
    exact ⟨ret_bool hv.out.symm, rfl⟩
  by_cases c1 : 20 < (s.size : Int)
  · have hv := Lib.hid (part_long s c1)
    go_enter Tryd.func59, Tryd.ntmps59
    go_wp2
    go_ret
    exact ⟨ret_bool hv.out.symm, rfl⟩
  have HV : Hid (partB s = wordL (bl s)) := by
    show _ = _
    have := HL.out
    unfold partB partL; rw [decide_eq_true (by unfold bl; omega), Bool.true_and]
  have h0s : 0 < s.size := by omega
  have hg0 := Lib.hid (get_data s 0 h0s)
  cases hl0 : ltrI (s[0].toNat : Int) with
  | false =>
    have hv : Hid (partB s = false) := by
      show _ = _
      rw [HV.out]; exact word_bad hg0.out (by unfold okC ltrB; rw [hl0]; simp)
    have HLI := Lib.hid hl0
    clear hl0
    go_enter Tryd.func59, Tryd.ntmps59
    go_wp2_with (go_at_call 89; refine (rletter_any _ _).mono ?_; rintro e w' ⟨rfl, rfl⟩; rw [HLI.out])
    go_ret
    exact ⟨ret_bool hv.out.symm, rfl⟩
  | true =>
    have HL0 := Lib.hid hl0
    clear hl0
    go_enter Tryd.func59, Tryd.ntmps59
    go_wp2_with (go_at_call 89; refine (rletter_any _ _).mono ?_; rintro e w' ⟨rfl, rfl⟩; rw [HL0.out])
    go_loop [5] (fun i => ∃ k : Nat, k ≤ s.size ∧ i = .int .i64 k ∧ Hid (OkTo (bl s) k)) (fun i => s.size - (intOf i).toNat)
    case atStart => exact ⟨0, Nat.zero_le _, rfl, fun j c h => absurd h (by omega)⟩
    case round =>
      obtain ⟨k, hk, rfl, hO⟩ := hrel
      by_cases hlt : k < s.size
      · have hg := Lib.hid (get_data s k hlt)
        have hlz : (k : Int) < (s.size : Int) := by omega
        cases hl : ltrI (s[k].toNat : Int) with
        | true =>
          have HO2 : Hid (OkTo (bl s) (k + 1)) := hO.out.step hg.out (by unfold okC ltrB; rw [hl]; rfl)
          have HLI := Lib.hid hl
          clear hl
          go_wp2_with (go_at_call 89; refine (rletter_any _ _).mono ?_; rintro e w' ⟨rfl, rfl⟩; rw [HLI.out])
          go_round
          case rel => exact ⟨k + 1, hlt, by go_num, HO2.out⟩
          case measure => simp [intOf]; omega
        | false =>
          have hk0 : k ≠ 0 := fun e => by subst e; rw [HL0.out] at hl; cases hl
          have HLI := Lib.hid hl
          cases hd : dgtI (s[k].toNat : Int) with
          | true =>
            have HO2 : Hid (OkTo (bl s) (k + 1)) := hO.out.step hg.out (by unfold okC ltrB dgtB; rw [hl, hd]; simp [hk0])
            have HDI := Lib.hid hd
            clear hl hd
            go_wp2_with (first
              | (go_at_call 89; refine (rletter_any _ _).mono ?_; rintro e w' ⟨rfl, rfl⟩; rw [HLI.out])
              | (go_at_call 90; refine (rdigit_any _ _).mono ?_; rintro e w' ⟨rfl, rfl⟩; rw [HDI.out]))
            go_round
            case rel => exact ⟨k + 1, hlt, by go_num, HO2.out⟩
            case measure => simp [intOf]; omega
          | false =>
            have hF : Hid (partB s = false) := by
              show _ = _
              rw [HV.out]; exact word_bad hg.out (by unfold okC ltrB dgtB; rw [hl, hd]; simp)
            have HDI := Lib.hid hd
            clear hl hd
            go_wp2_with (first
              | (go_at_call 89; refine (rletter_any _ _).mono ?_; rintro e w' ⟨rfl, rfl⟩; rw [HLI.out])
              | (go_at_call 90; refine (rdigit_any _ _).mono ?_; rintro e w' ⟨rfl, rfl⟩; rw [HDI.out]))
            go_ret
            exact ⟨ret_bool hF.out.symm, rfl⟩
      · have hlz : ¬ (k : Int) < (s.size : Int) := by omega
        have hF : Hid (partB s = true) := by
          show _ = _
          rw [HV.out, wordL_iff]
          have hkl : k = (bl s).length := by have := HL.out; unfold bl; omega
          refine ⟨fun e => by rw [e] at hkl; simp at hkl; omega, ?_⟩
          have h1 := hO.out
          rwa [hkl] at h1
        go_wp2
        go_ret
        exact ⟨ret_bool hF.out.symm, rfl⟩

def szOf : Value → Nat
  | .string t => t.size
  | _ => 0
set_option maxHeartbeats 1000000 in
theorem rlabel_any (s : ByteArray) (w : World) (hs : s.size ≤ maxLen) :
    Calls Tryd.prog 36 #[.string s] w fun e w' => e = .returned (.bool (labB s)) ∧ w = w' := by
  unfold maxLen at hs
  have HL := Lib.hid (size_len s)
  by_cases c1 : 90 < (s.size : Int)
  · have hv : Hid (labB s = false) := by
      show _ = _
      have := HL.out
      unfold labB labL bl; rw [decide_eq_false (by omega), Bool.false_and]
    go_enter Tryd.func36, Tryd.ntmps36
    go_wp2_with fail
    go_ret
    exact ⟨ret_bool hv.out.symm, rfl⟩
  have HN : Hid (labB s = (splitS (bl s)).all partL) := by
    show _ = _
    have := HL.out
    unfold labB labL; rw [decide_eq_true (by unfold bl; omega), Bool.true_and]
  have hs1 : s.size ≤ 90 := by omega
  go_enter Tryd.func36, Tryd.ntmps36
  go_wp2_with (go_at_call 58; refine (rslash_any _ _ (by unfold maxLen; omega)).mono ?_; rintro e w' ⟨rfl, rfl⟩)
  go_loop [0, 3] (fun a b => ∃ (t : ByteArray), t.size ≤ 90 ∧ a = .string t ∧ b = .int .i64 (slashL (bl t) : Nat) ∧ Hid ((splitS (bl s)).all partL = (splitS (bl t)).all partL)) (fun a _ => szOf a)
  case atStart => exact ⟨s, hs1, rfl, rfl, rfl⟩
  case round =>
    obtain ⟨t, ht, rfl, rfl, hA⟩ := hrel
    have hsl := slashL_le (bl t)
    have htl := size_len t
    have htl2 : (bl t).length = t.size := htl.symm
    obtain ⟨k, hk⟩ : ∃ k, slashL (bl t) = k := ⟨_, rfl⟩
    have HSP := Lib.hid (splitS_slash (bl t))
    rw [hk] at HSP hsl ⊢
    have HK := Lib.hid hk
    clear hk htl
    rw [htl2] at hsl HSP
    have HEX : Hid (bl (t.extract 0 k) = (bl t).take k) := by show _ = _; unfold bl; rw [extract_list]; simp
    have HEY : Hid (bl (t.extract (k + 1) t.size) = (bl t).drop (k + 1)) := by
      show _ = _
      unfold bl; rw [extract_list, List.take_of_length_le (by rw [List.length_drop]; unfold bl at htl2; omega)]
    by_cases hlt : k < t.size
    · have hlz : (k : Int) < (t.size : Int) := by omega
      have HSP2 : Hid (splitS (bl t) = (bl t).take k :: splitS ((bl t).drop (k + 1))) := by show _ = _; rw [HSP.out, if_pos hlt]
      cases hp : partB (t.extract 0 k) with
      | false =>
        have hF : Hid (labB s = false) := by
          show _ = _
          rw [HN.out, hA.out, HSP2.out, List.all_cons, ← HEX.out]
          show (partB (t.extract 0 k) && _) = false
          rw [hp, Bool.false_and]
        have HP := Lib.hid hp
        clear hp
        go_wp2_with (go_at_call 59; refine (rword_any _ _ (by rw [ByteArray.size_extract]; unfold maxLen; omega)).mono ?_; rintro e w' ⟨rfl, rfl⟩; rw [HP.out])
        go_ret
        exact ⟨ret_bool hF.out.symm, rfl⟩
      | true =>
        have HA2 : Hid ((splitS (bl s)).all partL = (splitS (bl (t.extract (k + 1) t.size))).all partL) := by
          show _ = _
          rw [hA.out, HSP2.out, List.all_cons, ← HEX.out, HEY.out]
          show (partB (t.extract 0 k) && _) = _
          rw [hp, Bool.true_and]
        have hz2 : (t.extract (k + 1) t.size).size = t.size - (k + 1) := by rw [ByteArray.size_extract]; omega
        have HZ2 := Lib.hid hz2
        have HP := Lib.hid hp
        clear hp hz2
        go_wp2_with (first
          | (go_at_call 59; refine (rword_any _ _ (by rw [ByteArray.size_extract]; unfold maxLen; omega)).mono ?_; rintro e w' ⟨rfl, rfl⟩; rw [HP.out])
          | (go_at_call 58; refine (rslash_any _ _ (by rw [ByteArray.size_extract]; unfold maxLen; omega)).mono ?_; rintro e w' ⟨rfl, rfl⟩))
        go_round
        case rel => exact ⟨_, by rw [HZ2.out]; omega, rfl, rfl, HA2.out⟩
        case measure => show (t.extract (k + 1) t.size).size < t.size; rw [HZ2.out]; omega
    · have hlz : ¬ (k : Int) < (t.size : Int) := by omega
      have hF : Hid (labB s = partB t) := by
        show _ = _
        rw [HN.out, hA.out, HSP.out, if_neg hlt]; simp [partB]
      go_wp2_with (go_at_call 59; refine (rword_any _ _ (by unfold maxLen; omega)).mono ?_; rintro e w' ⟨rfl, rfl⟩)
      go_ret
      exact ⟨ret_bool hF.out.symm, rfl⟩
end Go.Proofs.YtiphbincnnppdaaDoor

namespace Go.Proofs.YtiphbincnnppdaaDoor
open Go.RowKit

def BegEnd (s p : ByteArray) (w : World) (e : Ending) (w' : World) : Prop :=
  w = w' ∧ ((∃ r, bl s = bl p ++ bl r ∧ r.size ≤ s.size ∧ e = .returned (.tuple #[.string r, .bool true])) ∨ ((∀ r, bl s ≠ bl p ++ r) ∧ e = .returned (.tuple #[.string ⟨#[]⟩, .bool false])))
set_option maxRecDepth 100000 in
set_option maxHeartbeats 1000000 in
theorem begins_any (s p : ByteArray) (w : World) (hs : s.size ≤ maxLen) : Calls Tryd.prog 35 #[.string s, .string p] w (BegEnd s p w) := by
  have hs' : s.size ≤ 9223372036854775807 := by unfold maxLen at hs; exact hs
  by_cases hl : p.size ≤ s.size
  · have hlz : (p.size : Int) ≤ (s.size : Int) := by omega
    have hse := str_dec (s.extract 0 p.size) p
    have e1 : bl (s.extract 0 p.size) = (bl s).take p.size := by unfold bl; rw [extract_list]; simp
    have e2 : bl (s.extract p.size s.size) = (bl s).drop p.size := by unfold bl; rw [extract_list, size_len]; rw [List.take_of_length_le (by simp)]
    by_cases e : s.extract 0 p.size = p
    · rw [decide_eq_true e] at hse
      have HR : Hid (bl s = bl p ++ bl (s.extract p.size s.size) ∧ (s.extract p.size s.size).size ≤ s.size) := by
        refine ⟨?_, ?_⟩
        · rw [e2]
          have : bl p = (bl s).take p.size := by rw [← e1, e]
          rw [this, List.take_append_drop]
        · rw [size_len, size_len]
          show (bl (s.extract p.size s.size)).length ≤ (bl s).length
          rw [e2]; simp
      clear e e1 e2
      go_enter Tryd.func35, Tryd.ntmps35
      go_wp2
      go_ret2
      exact ⟨rfl, .inl ⟨_, HR.out.1, HR.out.2, rfl⟩⟩
    · rw [decide_eq_false e] at hse
      have HR : Hid (∀ r, bl s ≠ bl p ++ r) := fun r h => by
        apply e
        apply data_inj
        show bl (s.extract 0 p.size) = bl p
        rw [e1, h, size_len]
        show List.take (bl p).length (bl p ++ r) = bl p
        simp
      clear e e1 e2
      go_enter Tryd.func35, Tryd.ntmps35
      go_wp2
      go_ret2
      exact ⟨rfl, .inr ⟨HR.out, rfl⟩⟩
  · have hlz : ¬ (p.size : Int) ≤ (s.size : Int) := by omega
    have HR : Hid (∀ r, bl s ≠ bl p ++ r) := fun r h => by
      have := congrArg List.length h
      rw [List.length_append] at this
      have a := size_len s; have b := size_len p
      unfold bl at this
      omega
    go_enter Tryd.func35, Tryd.ntmps35
    go_wp2
    go_ret2
    exact ⟨rfl, .inr ⟨HR.out, rfl⟩⟩

def fwS : List ByteArray := [⟨#[115, 111, 117, 114, 99, 101, 32]⟩, ⟨#[105, 102, 97, 99, 101, 32]⟩, ⟨#[99, 111, 100, 101, 32]⟩, ⟨#[112, 114, 111, 103, 114, 97, 109, 32]⟩, ⟨#[118, 101, 114, 100, 105, 99, 116, 32]⟩]
theorem fwS_eq : fwS.map bl = fwords.map (· ++ [32]) := by decide
theorem fnB_begin {s p r : ByteArray} (hp : p ∈ fwS) (h : bl s = bl p ++ bl r) : fnB s = labB r := by
  have h1 : bl p ∈ fwords.map (· ++ [32]) := by rw [← fwS_eq]; exact List.mem_map_of_mem hp
  obtain ⟨a, ha, e⟩ := List.mem_map.1 h1
  have e2 : bl s = a ++ 32 :: bl r := by rw [h, ← e]; simp
  rw [Bool.eq_iff_iff, fnB_iff]
  constructor
  · rintro ⟨v, hv, q, hq, hl⟩
    obtain ⟨_, h2⟩ := cut_uniq (fwords_no v hv) (fwords_no a ha) (hq.symm.trans e2)
    unfold labB; rw [← h2]; exact hl
  · intro hl; exact ⟨a, ha, bl r, e2, hl⟩
theorem fnB_not {s : ByteArray} (h : ∀ p ∈ fwS, ∀ r, bl s ≠ bl p ++ r) : fnB s = false := by
  rw [Bool.eq_false_iff]
  intro hf
  obtain ⟨v, hv, q, hq, _⟩ := (fnB_iff s).1 hf
  have h1 : v ++ [32] ∈ fwS.map bl := by rw [fwS_eq]; exact List.mem_map.2 ⟨v, hv, rfl⟩
  obtain ⟨p, hp, e⟩ := List.mem_map.1 h1
  exact h p hp q (by rw [e, hq]; simp)
set_option maxRecDepth 100000 in
set_option maxHeartbeats 2000000 in
theorem named_any (s : ByteArray) (w : World) (hs : s.size ≤ maxLen) : Calls Tryd.prog 15 #[.string s] w fun e w' => e = .returned (.bool (fnB s)) ∧ Below w.heap.size w w' := by
  obtain ⟨W, hW⟩ : ∃ W, w.alloc (.cells #[.string ⟨#[115, 111, 117, 114, 99, 101, 32]⟩, .string ⟨#[105, 102, 97, 99, 101, 32]⟩, .string ⟨#[99, 111, 100, 101, 32]⟩, .string ⟨#[112, 114, 111, 103, 114, 97, 109, 32]⟩, .string ⟨#[118, 101, 114, 100, 105, 99, 116, 32]⟩] 9) = W := ⟨_, rfl⟩
  have HB : Hid (Below w.heap.size w W) := by rw [← hW]; exact (Below.refl _ w).alloc (Nat.le_refl _) _
  have HS : Hid (Sl W W.heap.size 1 (some ⟨w.heap.size, 0, none⟩) 5 (strs fwS)) := by rw [← hW]; exact Sl.of_bk (Bk.new w _ _) rfl
  go_enter Tryd.func15, Tryd.ntmps15
  go_wp2
  go_loop [4] (fun i => ∃ k : Nat, k ≤ 5 ∧ i = .int .i64 k ∧ Hid (∀ p ∈ fwS.take k, ∀ r, bl s ≠ bl p ++ r)) (fun i => 5 - (intOf i).toNat)
  case atStart => exact ⟨0, Nat.zero_le _, rfl, fun p hp => by cases hp⟩
  case round =>
    obtain ⟨k, hk, rfl, hF⟩ := hrel
    by_cases hlt : k < 5
    · obtain ⟨bb, off, y, hbe, hbB, ht, y0⟩ := HS.out.str_at hlt
      have hlz : (k : Int) < 5 := by omega
      cases hbe
      rw [Nat.zero_add] at y0
      have HT := Lib.hid ht
      have HBG := Lib.hid (begins_any s y W hs)
      clear ht
      go_wp2_with fail
      refine HBG.out.mono ?_
      rintro e w1 ⟨rfl, ⟨r, h1, h2, rfl⟩ | ⟨h1, rfl⟩⟩
      · have HE := Lib.hid (fnB_begin (List.mem_of_getElem? HT.out) h1)
        have hrs : r.size ≤ maxLen := Nat.le_trans h2 hs
        clear h1
        go_wp2_with fail
        refine (rlabel_any r _ hrs).mono ?_
        rintro e w2 ⟨rfl, rfl⟩
        go_wp2_with fail
        go_ret
        exact ⟨ret_bool HE.out.symm, HB.out⟩
      · have HN : Hid (∀ p ∈ fwS.take (k + 1), ∀ r, bl s ≠ bl p ++ r) := by
          intro p hp
          rw [take_snoc HT.out] at hp
          rcases List.mem_append.1 hp with hp | hp
          · exact hF.out p hp
          · rw [List.mem_singleton.1 hp]; exact h1
        clear h1
        go_wp2_with fail
        go_round
        case rel => exact ⟨k + 1, by omega, by go_num, HN.out⟩
        case measure => simp [intOf]; omega
    · have hlz : ¬ (k : Int) < 5 := by omega
      have HE : Hid (fnB s = false) := fnB_not (by have := hF.out; rw [List.take_of_length_le (by simp [fwS]; omega)] at this; exact this)
      go_wp2_with fail
      go_ret
      exact ⟨ret_bool HE.out.symm, HB.out⟩
end Go.Proofs.YtiphbincnnppdaaDoor
