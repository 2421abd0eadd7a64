/-
  Lemmas: What a visit finds is stored there: from a visit without an error to Std; in plain Lean. Reading one file of a tree; in plain Lean. Lists of files with one more, or without one; in plain Lean. Changes of files: Diff's answer, Patch's answer; in plain Lean. Reading one file of what is stored; how many objects a changed file brings; in plain Lean. Check's answer and valid files; what comes of setting, removing, and of changes; in plain Lean. The chapter's example: what is stored; in plain Lean. DERIVED: THE SHELF's CONTRACTS AT THIS DUMP, IN PLAIN WORDS (tools/lay-plain.mjs out of 'TryzSsp.lean', which tools/lay-shelf.mjs wrote): THE SAME DECLARATIONS UNDER THE SAME NAMES: 'import', 'namespace', 'open', 'def', 'theorem' AND NOTHING ELSE: no command of the shelf's: FOR A HAND-IN. Each laying: the table of numbers ('.._ren') and one theorem, a field a fact of the dump's own or the kernel's comparison; each contract: ONE APPLICATION. Blocks that are left alone. Over any program. A digest's words, read byte by byte; in plain Lean. GetInt and GetText, what a number or a text at the beginning of a string is. The program's reader of objects: number, string, digest; on what was written. The program's reader of objects: entry, and lists of entries and of digests; on what was written. Drawn regions, some of whose values are described, not given. Lists of a known length, taken apart.
-/
import Derived.Shelf.SlicesQ.IndexFunc
import Derived.Shelf.Strings.Split
import Derived.Shelf.SlIter.Stops
import Derived.Ground.SlgfProg
import Derived.Ground.GgzProg
import Derived.Ground.NamesProg
import Derived.Test.YtmdhlkkekidknaaGreatDoorProg
import Derived.Laws.BitsLemmas
import Derived.IntWalk
import Derived.RegionTactic
import Derived.BigRegion
import Derived.Test.YtmdhlkkekidknaaGreatDoorU3

namespace Go.Proofs.YtmdhlkkekidknaaGreatDoor
open Go.RowKit

theorem vsE_all {g : Dig → ByteArray → List Fl × Int} {p : List Itm} {pre : ByteArray} : ∀ {es : List Ent}, (vsE g p pre es).2 = 0 → ∀ e ∈ es, (pre ++ e.nm).size ≤ 100 ∧ ((e.dir = true ∧ (g e.dg (pre ++ e.nm ++ slB)).2 = 0) ∨ (e.dir = false ∧ ∃ o, getP p e.dg = some o ∧ o.kind = 1)) := by
  intro es
  induction es with
  | nil => intro _ e he; cases he
  | cons e es ih =>
    intro h x hx
    by_cases hf : 100 < (pre ++ e.nm).size
    · rw [vsE_far hf] at h; cases h
    · cases hd : e.dir with
      | true =>
        by_cases hz : (g e.dg (pre ++ e.nm ++ slB)).2 = 0
        · rw [vsE_dir hf hd (s := (g e.dg (pre ++ e.nm ++ slB)).1) (by rw [← hz])] at h
          rcases List.mem_cons.1 hx with rfl | hx
          · exact ⟨by omega, .inl ⟨hd, hz⟩⟩
          · exact ih h x hx
        · rw [vsE_sub hf hd (s := (g e.dg (pre ++ e.nm ++ slB)).1) hz rfl] at h
          exact absurd h hz
      | false =>
        cases hp : getP p e.dg with
        | none => rw [vsE_none hf hd hp] at h; cases h
        | some o =>
          by_cases hk : o.kind = 1
          · rw [vsE_file hf hd hp hk] at h
            rcases List.mem_cons.1 hx with rfl | hx
            · exact ⟨by omega, .inr ⟨hd, o, hp, hk⟩⟩
            · exact ih h x hx
          · rw [vsE_kind hf hd hp hk] at h; cases h
theorem vsE_len {g : Dig → ByteArray → List Fl × Int} {p : List Itm} {pre : ByteArray} : ∀ {es : List Ent}, (vsE g p pre es).2 = 0 → ∀ e ∈ es, e.dir = true → (g e.dg (pre ++ e.nm ++ slB)).1.length ≤ (vsE g p pre es).1.length := by
  intro es
  induction es with
  | nil => intro _ e he; cases he
  | cons e es ih =>
    intro h x hx hxd
    by_cases hf : 100 < (pre ++ e.nm).size
    · rw [vsE_far hf] at h; cases h
    · cases hd : e.dir with
      | true =>
        by_cases hz : (g e.dg (pre ++ e.nm ++ slB)).2 = 0
        · rw [vsE_dir hf hd (s := (g e.dg (pre ++ e.nm ++ slB)).1) (by rw [← hz])] at h ⊢
          simp only [List.length_append] at h ⊢
          rcases List.mem_cons.1 hx with rfl | hx
          · omega
          · have := ih h x hx hxd; omega
        · rw [vsE_sub hf hd (s := (g e.dg (pre ++ e.nm ++ slB)).1) hz rfl] at h
          exact absurd h hz
      | false =>
        cases hp : getP p e.dg with
        | none => rw [vsE_none hf hd hp] at h; cases h
        | some o =>
          by_cases hk : o.kind = 1
          · rw [vsE_file hf hd hp hk] at h ⊢
            simp only [List.length_cons] at h ⊢
            rcases List.mem_cons.1 hx with rfl | hx
            · rw [hd] at hxd; cases hxd
            · have := ih h x hx hxd; omega
          · rw [vsE_kind hf hd hp hk] at h; cases h
theorem blob_of {p : List Itm} (hp : PlOk p) {d : Dig} {o : Ob} (h : getP p d = some o) (hk : o.kind = 1) : o = blobO o.data := by
  have ho := getP_ok hp h
  cases ho.f with
  | blob k e c _ => exact c.eq (noC_zero 1 o.data []) hk rfl e
  | tree k _ _ _ => omega
  | commit k _ _ _ => omega
theorem tree_of {p : List Itm} (hp : PlOk p) {d : Dig} {o : Ob} (h : getP p d = some o) (hk : o.kind = 2) : o = treeO o.ents := by
  have ho := getP_ok hp h
  cases ho.f with
  | blob k e c _ => rcases k with k | k <;> omega
  | tree k d c _ => exact c.eq (noC_zero 2 ⟨#[]⟩ o.ents) hk d rfl
  | commit k _ _ _ => omega
theorem data_small {p : List Itm} (hp : PlOk p) (hs : ∀ i ∈ p, i.2.size ≤ 60000) {d : Dig} {s : ByteArray} (h : getP p d = some (blobO s)) : s.size ≤ 60000 := by
  have hm := hs _ ((getP_some hp).1 h).2
  simp only at hm
  rw [size_ofL] at hm
  have : (encO (blobO s)).length = (encN 1).length + ((encN (toL s).length).length + (toL s).length) := by
    show (encN 1 ++ encT (toL s)).length = _
    unfold encT
    simp only [List.length_append]
  rw [this, ← size_toL] at hm
  omega
structure OkT (l : List Fl) : Prop where
  path : ∀ f ∈ l, pathB f.1 = true
  data : ∀ f ∈ l, f.2.size ≤ 60000
  nod : (l.map Prod.fst).Nodup
  nob : ∀ f ∈ l, ∀ g ∈ l, belB f.1 g.1 = false
theorem OkT.ok {l : List Fl} (h : OkT l) (hl : l.length ≤ 200) : OkL l := ⟨h.path, h.data, hl, h.nod, h.nob⟩
theorem path_one {n : ByteArray} (h : nameB n = true) : pathB n = true := by
  rw [pathB_iff, splitS_cut, (cut_no (name_nosl h)).2]
  refine ⟨by have := (name_len h).2; omega, fun l hl => ?_⟩
  simp only [Bool.false_eq_true, if_false, List.mem_singleton] at hl
  subst hl; exact h
theorem cut_app {n r : ByteArray} (hn : NoSl n) : fsN (n ++ slB ++ r) = n ∧ rsN (n ++ slB ++ r) = r ∧ deN (n ++ slB ++ r) = true :=
  cut_of (by rw [bl_app, bl_app, bl_slB]; simp) hn
theorem path_app {n r : ByteArray} (h : nameB n = true) (hr : pathB r = true) (hs : (n ++ slB ++ r).size ≤ 100) : pathB (n ++ slB ++ r) = true := by
  obtain ⟨h1, h2, h3⟩ := cut_app (r := r) (name_nosl h)
  rw [pathB_iff, splitS_cut, h3, h1, h2]
  refine ⟨hs, fun l hl => ?_⟩
  simp only [if_true, List.mem_cons] at hl
  rcases hl with rfl | hl
  · exact h
  · exact ((pathB_iff r).1 hr).2 l hl
theorem app_injB {a b c : ByteArray} (h : a ++ b = a ++ c) : b = c := by
  have := congrArg bl h
  rw [bl_app, bl_app] at this
  exact bl_inj (List.append_cancel_left this)
theorem same_ent {es : List Ent} (hes : OkEs es) {e e' : Ent} (he : e ∈ es) (he' : e' ∈ es) (h : e.nm = e'.nm) : e = e' := by
  have hnm := asc_names hes
  clear hes
  induction es with
  | nil => cases he
  | cons x es ih =>
    have hn' := List.pairwise_cons.1 hnm
    rcases List.mem_cons.1 he with h1 | h1
    · rcases List.mem_cons.1 he' with h2 | h2
      · rw [h1, h2]
      · exact absurd (by rw [← h1]; exact h) (hn'.1 e' h2)
    · rcases List.mem_cons.1 he' with h2 | h2
      · exact absurd (by rw [← h2]; exact h.symm) (hn'.1 e h1)
      · exact ih h1 h2 hn'.2
noncomputable def contE (p : List Itm) (le : Ent → List Fl) (e : Ent) : List Fl := if e.dir = true then (le e).map (fun g => (e.nm ++ slB ++ g.1, g.2)) else match getP p e.dg with
  | some o => [(e.nm, o.data)]
  | none => []
section
variable {p : List Itm} {le : Ent → List Fl} {es : List Ent}
theorem mem_cont {e : Ent} {f : Fl} : f ∈ contE p le e ↔ (e.dir = true ∧ ∃ g ∈ le e, f = (e.nm ++ slB ++ g.1, g.2)) ∨ (e.dir = false ∧ ∃ o, getP p e.dg = some o ∧ f = (e.nm, o.data)) := by
  unfold contE
  cases hd : e.dir with
  | true =>
    simp only [if_true, List.mem_map, Bool.true_eq_false, false_and, or_false, true_and]
    constructor
    · rintro ⟨g, h1, h2⟩; exact ⟨g, h1, h2.symm⟩
    · rintro ⟨g, h1, h2⟩; exact ⟨g, h1, h2.symm⟩
  | false =>
    simp only [Bool.false_eq_true, if_false, false_and, false_or, true_and]
    cases hg : getP p e.dg with
    | none => simp
    | some o => simp
theorem cont_name {e : Ent} {f : Fl} (hn : NoSl e.nm) (h : f ∈ contE p le e) : fsN f.1 = e.nm ∧ deN f.1 = e.dir := by
  rcases mem_cont.1 h with ⟨hd, g, _, rfl⟩ | ⟨hd, o, _, rfl⟩
  · obtain ⟨h1, _, h3⟩ := cut_app (r := g.1) hn
    exact ⟨h1, h3.trans hd.symm⟩
  · obtain ⟨h1, h2⟩ := cut_no hn
    exact ⟨h1, h2.trans hd.symm⟩
theorem mem_all {f : Fl} : f ∈ es.flatMap (contE p le) ↔ ∃ e ∈ es, f ∈ contE p le e := List.mem_flatMap
variable (hes : OkEs es) (hle : ∀ e ∈ es, e.dir = true → OkT (le e) ∧ le e ≠ [] ∧ ∀ g ∈ le e, (e.nm ++ slB ++ g.1).size ≤ 100) (hfl : ∀ e ∈ es, e.dir = false → ∃ s, s.size ≤ 60000 ∧ getP p e.dg = some (blobO s))
include hes hle hfl
theorem all_nod : ((es.flatMap (contE p le)).map Prod.fst).Nodup := by
  have hnm := asc_names hes
  have hall := hes.all
  clear hes
  induction es with
  | nil => exact List.nodup_nil
  | cons e es ih =>
    rw [List.flatMap_cons, List.map_append, List.nodup_append]
    have hn' := List.pairwise_cons.1 hnm
    refine ⟨?_, ih (fun e he => hle e (by simp [he])) (fun e he => hfl e (by simp [he])) hn'.2 (fun e he => hall e (by simp [he])), ?_⟩
    · cases hd : e.dir with
      | true =>
        have h1 := (hle e (by simp) hd).1.nod
        unfold contE
        rw [if_pos hd, List.map_map]
        unfold List.Nodup at h1 ⊢
        rw [List.pairwise_map] at h1 ⊢
        exact h1.imp (fun h e => h (app_injB e))
      | false =>
        obtain ⟨s, _, h2⟩ := hfl e (by simp) hd
        unfold contE
        rw [if_neg (by rw [hd]; simp), h2]; simp
    · intro a ha b hb hab
      obtain ⟨f, hf, rfl⟩ := List.mem_map.1 ha
      obtain ⟨g, hg, rfl⟩ := List.mem_map.1 hb
      obtain ⟨e', he', hg'⟩ := mem_all.1 hg
      have h1 := (cont_name (name_nosl (hall e (by simp)).nm) hf).1
      have h2 := (cont_name (name_nosl (hall e' (by simp [he'])).nm) hg').1
      rw [hab, h2] at h1
      exact hn'.1 e' he' h1.symm
theorem all_ok : OkT (es.flatMap (contE p le)) where
  nod := all_nod hes hle hfl
  path f hf := by
    obtain ⟨e, he, h⟩ := mem_all.1 hf
    have hn := (hes.all e he).nm
    rcases mem_cont.1 h with ⟨hd, g, hg, rfl⟩ | ⟨hd, o, _, rfl⟩
    · obtain ⟨h1, _, h3⟩ := hle e he hd
      exact path_app hn (h1.path g hg) (h3 g hg)
    · exact path_one hn
  data f hf := by
    obtain ⟨e, he, h⟩ := mem_all.1 hf
    rcases mem_cont.1 h with ⟨hd, g, hg, rfl⟩ | ⟨hd, o, ho, rfl⟩
    · exact (hle e he hd).1.data g hg
    · obtain ⟨s, hs, h2⟩ := hfl e he hd
      rw [h2] at ho; cases ho; exact hs
  nob f hf g hg := by
    rw [Bool.eq_false_iff]
    intro hb
    obtain ⟨r, hr⟩ := (belB_iff _ _).1 hb
    obtain ⟨e, he, h⟩ := mem_all.1 hf
    obtain ⟨e', he', h'⟩ := mem_all.1 hg
    have hn := name_nosl (hes.all e he).nm
    have hn' := name_nosl (hes.all e' he').nm
    have hc := cont_name hn h
    have hc' := cont_name hn' h'
    rcases mem_cont.1 h with ⟨hd, x, hx, rfl⟩ | ⟨hd, o, ho, rfl⟩
    · -- a file in a directory
      simp only [bl_app, bl_slB] at hr
      have hg1 : fsN g.1 = e.nm ∧ _ := cut_of (s := g.1) (a := e.nm) (b := ub (bl x.1 ++ 47 :: r)) (by rw [hr, bl_ub]; simp) hn
      have hee : e' = e := same_ent hes he' he (hc'.1.symm.trans hg1.1)
      subst hee
      rcases mem_cont.1 h' with ⟨_, y, hy, rfl⟩ | ⟨hd', _⟩
      · have := (hle e' he hd).1.nob x hx y hy
        rw [Bool.eq_false_iff] at this
        refine this ((belB_iff _ _).2 ⟨r, ?_⟩)
        simp only [bl_app, bl_slB, List.append_assoc] at hr
        exact List.append_cancel_left (List.append_cancel_left hr)
      · rw [hd] at hd'; cases hd'
    · -- a file
      have hg1 : fsN g.1 = e.nm ∧ _ ∧ deN g.1 = true := cut_of (s := g.1) (a := e.nm) (b := ub r) (by rw [hr, bl_ub]) hn
      have hee : e' = e := same_ent hes he' he (hc'.1.symm.trans hg1.1)
      subst hee
      have := hc'.2
      rw [hg1.2.2, hd] at this; cases this
theorem all_inD {e : Ent} (he : e ∈ es) (hd : e.dir = true) : (le e).Perm (inD (es.flatMap (contE p le)) e.nm) := by
  have hok := all_ok hes hle hfl
  have hn := name_nosl (hes.all e he).nm
  have hnd : ((inD (es.flatMap (contE p le)) e.nm).map Prod.fst).Nodup := by
    unfold inD
    rw [List.map_map]
    have h1 : ((es.flatMap (contE p le)).filter (fun f => deN f.1 && decide (fsN f.1 = e.nm))).Pairwise (fun a b => a.1 ≠ b.1) := by
      have := hok.nod
      unfold List.Nodup at this
      rw [List.pairwise_map] at this
      exact this.filter _
    unfold List.Nodup
    rw [List.pairwise_map]
    refine h1.imp_of_mem ?_
    intro a b ha hb hab he
    rw [List.mem_filter, Bool.and_eq_true, decide_eq_true_eq] at ha hb
    exact hab (cut_eq ha.2.1 hb.2.1 (ha.2.2.trans hb.2.2.symm) he)
  refine (List.perm_ext_iff_of_nodup (nodup_of_map Prod.fst (hle e he hd).1.nod) (nodup_of_map Prod.fst hnd)).2 (fun f => ?_)
  rw [mem_inD]
  constructor
  · intro hf
    obtain ⟨h1, h2, h3⟩ := cut_app (r := f.1) hn
    exact ⟨(e.nm ++ slB ++ f.1, f.2), mem_all.2 ⟨e, he, mem_cont.2 (.inl ⟨hd, f, hf, rfl⟩)⟩, h3, h1, by rw [h2]⟩
  · rintro ⟨g, hg, h1, h2, rfl⟩
    obtain ⟨e', he', h⟩ := mem_all.1 hg
    have hc := cont_name (name_nosl (hes.all e' he').nm) h
    have hee : e' = e := same_ent hes he' he (hc.1.symm.trans h2)
    subst hee
    rcases mem_cont.1 h with ⟨_, y, hy, rfl⟩ | ⟨hd', _⟩
    · obtain ⟨_, h5, _⟩ := cut_app (r := y.1) hn
      rw [h5]; exact hy
    · rw [hd] at hd'; cases hd'
theorem all_names : es.map Ent.nm = nmsP (es.flatMap (contE p le)) := by
  have ha : Asc (es.map Ent.nm) := by
    unfold Asc
    rw [List.pairwise_map, List.pairwise_iff_getElem]
    intro i j hi hj hij
    have key : ∀ k, i + k + 1 < es.length → ∀ b, es[i + k + 1]? = some b → less es[i].nm b.nm = true := by
      intro k
      induction k with
      | zero => intro hk b hb; exact hes.asc i _ _ (List.getElem?_eq_getElem hi) hb
      | succ k ih =>
        intro hk b hb
        have h1 := ih (by omega) _ (List.getElem?_eq_getElem (by omega))
        exact lessB_trans h1 (hes.asc (i + k + 1) _ _ (List.getElem?_eq_getElem (by omega)) (by rw [show i + k + 1 + 1 = i + (k + 1) + 1 by omega]; exact hb))
    exact key (j - i - 1) (by omega) _ (by rw [show i + (j - i - 1) + 1 = j by omega]; exact List.getElem?_eq_getElem hj)
  refine asc_ext ha (nms_asc _) (fun x => ?_)
  rw [nms_mem, List.mem_map]
  constructor
  · rintro ⟨e, he, rfl⟩
    have hn := name_nosl (hes.all e he).nm
    cases hd : e.dir with
    | true =>
      obtain ⟨g, hg⟩ := List.exists_mem_of_ne_nil _ (hle e he hd).2.1
      have hm := mem_cont (p := p) (le := le).2 (.inl ⟨hd, g, hg, rfl⟩)
      exact ⟨_, mem_all.2 ⟨e, he, hm⟩, (cont_name hn hm).1.symm⟩
    | false =>
      obtain ⟨s, _, h2⟩ := hfl e he hd
      have hm := mem_cont (p := p) (le := le).2 (.inr ⟨hd, _, h2, rfl⟩)
      exact ⟨_, mem_all.2 ⟨e, he, hm⟩, (cont_name hn hm).1.symm⟩
  · rintro ⟨f, hf, rfl⟩
    obtain ⟨e, he, h⟩ := mem_all.1 hf
    exact ⟨e, he, (cont_name (name_nosl (hes.all e he).nm) h).1.symm⟩
end
theorem vis_std {p : List Itm} (hp : PlOk p) (hs : ∀ i ∈ p, i.2.size ≤ 60000) : ∀ (n : Nat) (d : Dig) (pre : ByteArray), (vis p n d pre).2 = 0 → (vis p n d pre).1.length ≤ 200 →
    ∃ l, OkL l ∧ Std p n d l ∧ (∀ f ∈ l, (pre ++ f.1).size ≤ 100) ∧ (pre ≠ ⟨#[]⟩ → l ≠ []) ∧ ∀ f, f ∈ (vis p n d pre).1 ↔ ∃ g ∈ l, f = (pre ++ g.1, g.2) := by
  intro n
  induction n with
  | zero => intro d pre h; rw [vis] at h; cases h
  | succ n ih =>
    intro d pre h hlen
    cases hg : getP p d with
    | none => rw [vis_none hg] at h; cases h
    | some o =>
      by_cases hk2 : o.kind ≠ 2
      · rw [vis_kind hg hk2] at h; cases h
      have hk : o.kind = 2 := Decidable.not_not.1 hk2
      by_cases he : o.ents = [] ∧ pre ≠ ⟨#[]⟩
      · rw [vis_empty hg hk he.1 he.2] at h; cases h
      obtain ⟨es, hes0⟩ : ∃ es, o.ents = es := ⟨_, rfl⟩
      have hto := tree_of hp hg hk
      rw [hes0] at hto
      have hes : OkEs es := by rw [← hes0]; exact okO_tree (getP_ok hp hg) hk
      rw [vis_ents hg hk he, hes0] at h hlen ⊢
      rw [hes0] at he
      have hall := vsE_all h
      have hsub : ∀ e ∈ es, e.dir = true → ∃ l, OkL l ∧ Std p n e.dg l ∧ (∀ f ∈ l, (pre ++ e.nm ++ slB ++ f.1).size ≤ 100) ∧ (pre ++ e.nm ++ slB ≠ ⟨#[]⟩ → l ≠ []) ∧ ∀ f, f ∈ (vis p n e.dg (pre ++ e.nm ++ slB)).1 ↔ ∃ g ∈ l, f = (pre ++ e.nm ++ slB ++ g.1, g.2) := fun e he hd => by
        obtain ⟨_, h2⟩ := hall e he
        rcases h2 with ⟨_, h2⟩ | ⟨h2, _⟩
        · exact ih _ _ h2 (Nat.le_trans (vsE_len h e he hd) hlen)
        · rw [hd] at h2; cases h2
      obtain ⟨le, hle⟩ : ∃ le : Ent → List Fl, ∀ e ∈ es, e.dir = true → OkL (le e) ∧ Std p n e.dg (le e) ∧ (∀ f ∈ le e, (pre ++ e.nm ++ slB ++ f.1).size ≤ 100) ∧ (pre ++ e.nm ++ slB ≠ ⟨#[]⟩ → le e ≠ []) ∧ ∀ f, f ∈ (vis p n e.dg (pre ++ e.nm ++ slB)).1 ↔ ∃ g ∈ le e, f = (pre ++ e.nm ++ slB ++ g.1, g.2) := by
        refine ⟨fun e => Classical.epsilon (fun l => OkL l ∧ Std p n e.dg l ∧ (∀ f ∈ l, (pre ++ e.nm ++ slB ++ f.1).size ≤ 100) ∧ (pre ++ e.nm ++ slB ≠ ⟨#[]⟩ → l ≠ []) ∧ ∀ f, f ∈ (vis p n e.dg (pre ++ e.nm ++ slB)).1 ↔ ∃ g ∈ l, f = (pre ++ e.nm ++ slB ++ g.1, g.2)), fun e he hd => ?_⟩
        exact Classical.epsilon_spec (hsub e he hd)
      have hnz : ∀ e : Ent, pre ++ e.nm ++ slB ≠ ⟨#[]⟩ := fun e h0 => by
        have := congrArg ByteArray.size h0
        rw [size_app] at this
        have e1 : slB.size = 1 := rfl
        have e2 : (⟨#[]⟩ : ByteArray).size = 0 := rfl
        omega
      have hle2 : ∀ e ∈ es, e.dir = true → OkT (le e) ∧ le e ≠ [] ∧ ∀ g ∈ le e, (e.nm ++ slB ++ g.1).size ≤ 100 := fun e he hd => by
        obtain ⟨h1, _, h3, h4, _⟩ := hle e he hd
        refine ⟨⟨h1.path, h1.data, h1.nod, h1.nob⟩, h4 (hnz e), fun g hg => ?_⟩
        have := h3 g hg
        rw [app_assocB, app_assocB, size_app] at this
        rw [app_assocB]; omega
      have hfl : ∀ e ∈ es, e.dir = false → ∃ s, s.size ≤ 60000 ∧ getP p e.dg = some (blobO s) := fun e he hd => by
        obtain ⟨_, h2⟩ := hall e he
        rcases h2 with ⟨h2, _⟩ | ⟨_, o', ho', hk'⟩
        · rw [hd] at h2; cases h2
        · have hb := blob_of hp ho' hk'
          rw [hb] at ho'
          exact ⟨_, data_small hp hs ho', ho'⟩
      have hok := all_ok (p := p) hes hle2 hfl
      have hin := fun e he hd => all_inD (p := p) hes hle2 hfl (e := e) he hd
      have hnms := all_names (p := p) hes hle2 hfl
      obtain ⟨v1, v2⟩ := vsE_good (g := vis p n) (p := p) (pre := pre) hall
      have hmem : ∀ f, f ∈ (vsE (vis p n) p pre es).1 ↔ ∃ g ∈ es.flatMap (contE p le), f = (pre ++ g.1, g.2) := fun f => by
        rw [v2]
        constructor
        · rintro ⟨e, he, h⟩
          rcases h with ⟨hd, hf⟩ | ⟨hd, o', ho', rfl⟩
          · obtain ⟨g, hg, rfl⟩ := ((hle e he hd).2.2.2.2 f).1 hf
            exact ⟨(e.nm ++ slB ++ g.1, g.2), mem_all.2 ⟨e, he, mem_cont.2 (.inl ⟨hd, g, hg, rfl⟩)⟩, by simp only [app_assocB]⟩
          · exact ⟨(e.nm, o'.data), mem_all.2 ⟨e, he, mem_cont.2 (.inr ⟨hd, o', ho', rfl⟩)⟩, rfl⟩
        · rintro ⟨g, hg, rfl⟩
          obtain ⟨e, he, h⟩ := mem_all.1 hg
          rcases mem_cont.1 h with ⟨hd, x, hx, rfl⟩ | ⟨hd, o', ho', rfl⟩
          · exact ⟨e, he, .inl ⟨hd, ((hle e he hd).2.2.2.2 _).2 ⟨x, hx, by simp only [app_assocB]⟩⟩⟩
          · exact ⟨e, he, .inr ⟨hd, o', ho', rfl⟩⟩
      have hnod := vis_nodup hp (n + 1) d pre
      rw [vis_ents hg hk (by rw [hes0]; exact he), hes0] at hnod
      have hpm : ((es.flatMap (contE p le)).map (fun g => (pre ++ g.1, g.2))).Perm (vsE (vis p n) p pre es).1 := by
        refine (List.perm_ext_iff_of_nodup ?_ (nodup_of_map Prod.fst hnod)).2 (fun f => ?_)
        · have h1 := nodup_of_map Prod.fst hok.nod
          unfold List.Nodup at h1 ⊢
          rw [List.pairwise_map]
          refine h1.imp ?_
          intro a b hab h0
          rw [Prod.mk.injEq] at h0
          exact hab (Prod.ext (app_injB h0.1) h0.2)
        · rw [hmem, List.mem_map]
          constructor
          · rintro ⟨g, h1, h2⟩; exact ⟨g, h1, h2.symm⟩
          · rintro ⟨g, h1, h2⟩; exact ⟨g, h1, h2.symm⟩
      have hfew : (es.flatMap (contE p le)).length ≤ 200 := by
        have := hpm.length_eq
        rw [List.length_map] at this
        omega
      refine ⟨es.flatMap (contE p le), hok.ok hfew, ⟨es, by rw [hg, hto], hnms, fun e he => ?_⟩, fun f hf => ?_, fun h0 h1 => ?_, hmem⟩
      · cases hd : e.dir with
        | true =>
          refine .inr ⟨hd, fun h0 => ?_, fun f hf h0 => ?_, (hle e he hd).2.1.perm (hin e he hd)⟩
          · have := (hin e he hd).length_eq
            rw [h0] at this
            exact (hle2 e he hd).2.1 (List.eq_nil_of_length_eq_zero this)
          · obtain ⟨e', he', h⟩ := mem_all.1 hf
            have hn := name_nosl (hes.all e he).nm
            have hc := cont_name (name_nosl (hes.all e' he').nm) h
            rw [h0, (cut_no hn).1, (cut_no hn).2] at hc
            have hee : e' = e := same_ent hes he' he hc.1.symm
            rw [hee, hd] at hc; cases hc.2
        | false =>
          obtain ⟨s, _, h2⟩ := hfl e he hd
          exact .inl ⟨hd, s, mem_all.2 ⟨e, he, mem_cont.2 (.inr ⟨hd, _, h2, rfl⟩)⟩, h2⟩
      · obtain ⟨e, he, h⟩ := mem_all.1 hf
        rcases mem_cont.1 h with ⟨hd, x, hx, rfl⟩ | ⟨hd, o', ho', rfl⟩
        · have := (hle e he hd).2.2.1 x hx
          simp only [app_assocB] at this ⊢
          exact this
        · exact (hall e he).1
      · cases es with
        | nil => exact he ⟨rfl, h0⟩
        | cons e es =>
          have : e.nm ∈ (e :: es).map Ent.nm := by simp
          rw [hnms, nms_mem] at this
          obtain ⟨f, hf, _⟩ := this
          rw [h1] at hf; cases hf
theorem load_std {p : List Itm} (hp : PlOk p) (hs : ∀ i ∈ p, i.2.size ≤ 60000) {d : Dig} {fs : List Fl} (h : LdSeq p d fs) : OkL fs ∧ Std p 102 d fs := by
  obtain ⟨l, h1, h2, _, _, h5⟩ := vis_std hp hs 102 d ⟨#[]⟩ h.ok h.few
  have hem : ∀ s : ByteArray, (⟨#[]⟩ : ByteArray) ++ s = s := fun s => by apply bl_inj; rw [bl_app]; rfl
  have hnd := vis_nodup hp 102 d ⟨#[]⟩
  have hpm : l.Perm fs := by
    refine List.Perm.trans ?_ h.perm.symm
    refine (List.perm_ext_iff_of_nodup (nodup_of_map Prod.fst h1.nod) (nodup_of_map Prod.fst hnd)).2 (fun f => ?_)
    show f ∈ l ↔ f ∈ (vis p 102 d ⟨#[]⟩).1
    rw [h5]
    constructor
    · intro hf; exact ⟨f, hf, by rw [hem]⟩
    · rintro ⟨g, hg, rfl⟩; rw [hem]; exact hg
  exact ⟨h1.perm hpm, h2.perm hpm⟩
end Go.Proofs.YtmdhlkkekidknaaGreatDoor

namespace Go.Proofs.YtmdhlkkekidknaaGreatDoor
open Go.RowKit

def entN (es : List Ent) (n : ByteArray) : Option Ent := es.find? (fun e => decide (e.nm = n))
noncomputable def datP (p : List Itm) (d : Dig) : ByteArray × Int := match getP p d with
  | none => (⟨#[]⟩, 8)
  | some o => if o.kind = 1 then (o.data, 0) else (⟨#[]⟩, 9)
noncomputable def getF (p : List Itm) : Nat → Dig → ByteArray → ByteArray × Int
  | 0, _, _ => (⟨#[]⟩, 8)
  | k + 1, d, s => match getP p d with
    | none => (⟨#[]⟩, 8)
    | some o => if o.kind = 2 then (match entN o.ents (fsN s) with
      | none => (⟨#[]⟩, 8)
      | some e => if e.dir = deN s then (if deN s = true then getF p k e.dg (rsN s) else datP p e.dg) else (⟨#[]⟩, 9)) else (⟨#[]⟩, 9)
section
variable {p : List Itm} {k : Nat} {d : Dig} {s : ByteArray}
theorem datP_none (h : getP p d = none) : datP p d = (⟨#[]⟩, 8) := by unfold datP; rw [h]
theorem datP_kind {o : Ob} (h : getP p d = some o) (hk : o.kind ≠ 1) : datP p d = (⟨#[]⟩, 9) := by unfold datP; rw [h]; simp only [if_neg hk]
theorem datP_some {o : Ob} (h : getP p d = some o) (hk : o.kind = 1) : datP p d = (o.data, 0) := by unfold datP; rw [h]; simp only [if_pos hk]
theorem getF_none (h : getP p d = none) : getF p (k + 1) d s = (⟨#[]⟩, 8) := by rw [getF, h]
theorem getF_kind {o : Ob} (h : getP p d = some o) (hk : o.kind ≠ 2) : getF p (k + 1) d s = (⟨#[]⟩, 9) := by rw [getF, h]; simp only [if_neg hk]
theorem getF_ent {o : Ob} (h : getP p d = some o) (hk : o.kind = 2) (he : entN o.ents (fsN s) = none) : getF p (k + 1) d s = (⟨#[]⟩, 8) := by rw [getF, h]; simp only [if_pos hk, he]
theorem getF_dir {o : Ob} {e : Ent} (h : getP p d = some o) (hk : o.kind = 2) (he : entN o.ents (fsN s) = some e) (hd : e.dir ≠ deN s) : getF p (k + 1) d s = (⟨#[]⟩, 9) := by rw [getF, h]; simp only [if_pos hk, he, if_neg hd]
theorem getF_sub {o : Ob} {e : Ent} (h : getP p d = some o) (hk : o.kind = 2) (he : entN o.ents (fsN s) = some e) (hd : e.dir = true) (hs : deN s = true) : getF p (k + 1) d s = getF p k e.dg (rsN s) := by
  rw [getF, h]; simp only [if_pos hk, he, hd, hs, if_true]
theorem getF_file {o : Ob} {e : Ent} (h : getP p d = some o) (hk : o.kind = 2) (he : entN o.ents (fsN s) = some e) (hd : e.dir = false) (hs : deN s = false) : getF p (k + 1) d s = datP p e.dg := by
  rw [getF, h]; simp only [if_pos hk, he, hd, hs, if_true, Bool.false_eq_true, if_false]
end
theorem entN_at {es : List Ent} {n : ByteArray} {j : Nat} {e : Ent} (h : ∀ (i : Nat) (x : Ent), i < j → es[i]? = some x → x.nm ≠ n) (hj : es[j]? = some e) (he : e.nm = n) : entN es n = some e := by
  unfold entN
  rw [← List.take_append_drop j es, List.find?_append]
  have h0 : (es.take j).find? (fun e => decide (e.nm = n)) = none := by
    rw [List.find?_eq_none]
    intro x hx
    obtain ⟨i, hi, e'⟩ := List.getElem_of_mem hx
    rw [List.length_take] at hi
    rw [List.getElem_take] at e'
    have := h i x (by omega) (by rw [← e']; exact List.getElem?_eq_getElem (by omega))
    simpa using this
  rw [h0, drop_at hj]
  simp [he]
theorem entN_no {es : List Ent} {n : ByteArray} (h : ∀ (i : Nat) (x : Ent), es[i]? = some x → x.nm ≠ n) : entN es n = none := by
  unfold entN
  rw [List.find?_eq_none]
  intro x hx
  obtain ⟨i, hi⟩ := List.mem_iff_getElem?.1 hx
  simpa using h i x hi
def jnN : List (List UInt8) → List UInt8
  | [] => []
  | [n] => n
  | n :: m :: r => n ++ 47 :: jnN (m :: r)
theorem jn_split : ∀ (k : Nat) (l : List UInt8), l.length ≤ k → jnN (splitS l) = l := by
  intro k
  induction k with
  | zero =>
    intro l hl
    have : l = [] := List.eq_nil_of_length_eq_zero (by omega)
    subst this
    rw [splitS_slash]
    simp [slashL, jnN]
  | succ k ih =>
    intro l hl
    rw [splitS_slash]
    by_cases h : slashL l < l.length
    · rw [if_pos h]
      have h1 := ih (l.drop (slashL l + 1)) (by rw [List.length_drop]; omega)
      obtain ⟨a, r, e⟩ := List.exists_cons_of_ne_nil (splitS_ne (l.drop (slashL l + 1)))
      rw [e] at h1 ⊢
      rw [jnN, h1]
      exact (slashL_dec l h).symm
    · rw [if_neg h]; rfl
noncomputable def getN (p : List Itm) (k : Nat) (d : Dig) (ns : List (List UInt8)) : ByteArray × Int := getF p k d (ub (jnN ns))
theorem nosl_ub {n : List UInt8} (h : ∀ c ∈ n, c ≠ 47) : NoSl (ub n) := by intro c hc; rw [bl_ub] at hc; exact h c hc
theorem cut_jn1 {n : List UInt8} (hn : ∀ c ∈ n, c ≠ 47) : fsN (ub (jnN [n])) = ub n ∧ deN (ub (jnN [n])) = false := by
  have := cut_no (nosl_ub hn)
  exact this
theorem cut_jn {n m : List UInt8} {r : List (List UInt8)} (hn : ∀ c ∈ n, c ≠ 47) : fsN (ub (jnN (n :: m :: r))) = ub n ∧ rsN (ub (jnN (n :: m :: r))) = ub (jnN (m :: r)) ∧ deN (ub (jnN (n :: m :: r))) = true := by
  refine cut_of ?_ (nosl_ub hn)
  rw [bl_ub, bl_ub, bl_ub]; rfl
end Go.Proofs.YtmdhlkkekidknaaGreatDoor

namespace Go.Proofs.YtmdhlkkekidknaaGreatDoor
open Go.RowKit

def withF (l : List Fl) (f : Fl) : List Fl := l.filter (fun g => less g.1 f.1) ++ f :: l.filter (fun g => less f.1 g.1)
theorem mem_withF {l : List Fl} {f g : Fl} : g ∈ withF l f ↔ (g ∈ l ∧ g.1 ≠ f.1) ∨ g = f := by
  unfold withF
  rw [List.mem_append, List.mem_cons, List.mem_filter, List.mem_filter]
  constructor
  · rintro (⟨h1, h2⟩ | h | ⟨h1, h2⟩)
    · exact .inl ⟨h1, lessB_ne h2⟩
    · exact .inr h
    · exact .inl ⟨h1, fun e => lessB_ne h2 e.symm⟩
  · rintro (⟨h1, h2⟩ | h)
    · cases h3 : less g.1 f.1 with
      | true => exact .inl ⟨h1, rfl⟩
      | false =>
        cases h4 : less f.1 g.1 with
        | true => exact .inr (.inr ⟨h1, rfl⟩)
        | false => exact absurd (lessB_conn h3 h4) h2
    · exact .inr (.inl h)
theorem asc_withF {l : List Fl} (h : AscF l) (f : Fl) : AscF (withF l f) := by
  unfold withF AscF
  rw [List.pairwise_append]
  refine ⟨h.filter _, ?_, ?_⟩
  · rw [List.pairwise_cons]
    exact ⟨fun g hg => (List.mem_filter.1 hg).2, h.filter _⟩
  · intro a ha b hb
    have h1 := (List.mem_filter.1 ha).2
    rcases List.mem_cons.1 hb with rfl | hb
    · exact h1
    · exact lessB_trans h1 (List.mem_filter.1 hb).2
theorem asc_nodup {l : List Fl} (h : AscF l) : (l.map Prod.fst).Nodup := by
  unfold List.Nodup
  rw [List.pairwise_map]
  exact List.Pairwise.imp (fun h => lessB_ne h) h
theorem filter_two (l : List Fl) {a b : Fl → Bool} (h : ∀ g, a g = true → b g = false) : (l.filter a).length + (l.filter b).length ≤ l.length := by
  induction l with
  | nil => simp
  | cons g l ih =>
    rw [List.filter_cons, List.filter_cons]
    cases ha : a g with
    | true => rw [h g ha]; simp; omega
    | false => cases b g <;> simp <;> omega
theorem withF_len (l : List Fl) (f : Fl) : (withF l f).length ≤ l.length + 1 := by
  unfold withF
  have := filter_two l (a := fun g => less g.1 f.1) (b := fun g => less f.1 g.1) (fun g h => lessB_asymm h)
  rw [List.length_append, List.length_cons]; omega
section
variable {l out : List Fl} {f g : Fl} {i : Nat} {put : Bool}
theorem filter_all {α : Type} {p : α → Bool} {l : List α} (h : ∀ x ∈ l, p x = true) : l.filter p = l := List.filter_eq_self.2 h
theorem filter_none {α : Type} {p : α → Bool} {l : List α} (h : ∀ x ∈ l, p x = false) : l.filter p = [] := List.filter_eq_nil_iff.2 (fun x hx => by rw [h x hx]; simp)
end
section
variable {g : Dig → ByteArray → List Fl × Int} {p : List Itm} {pre : ByteArray} {es : List Ent} {l fs m : List Fl} {j : Nat} {e : Ent}
end
end Go.Proofs.YtmdhlkkekidknaaGreatDoor

namespace Go.Proofs.YtmdhlkkekidknaaGreatDoor
open Go.RowKit

structure FCh where
  path : ByteArray
  ho : Bool
  hn : Bool
  old : ByteArray
  new : ByteArray
def isCh (x : FCh) : Prop := x.ho ≠ x.hn ∨ x.old ≠ x.new
instance (x : FCh) : Decidable (isCh x) := by unfold isCh; infer_instance
section
variable {l m : List Fl} {c : List FCh} {j : Nat} {x : FCh}
end
end Go.Proofs.YtmdhlkkekidknaaGreatDoor

namespace Go.Proofs.YtmdhlkkekidknaaGreatDoor
open Go.RowKit

theorem entN_mem {es : List Ent} (h : OkEs es) {e : Ent} (he : e ∈ es) : entN es e.nm = some e := by
  obtain ⟨j, hj⟩ := List.mem_iff_getElem?.1 he
  refine entN_at (j := j) (fun _ x hi hx hn => ?_) hj rfl
  have hnm := asc_names h
  rw [List.pairwise_iff_getElem] at hnm
  obtain ⟨h1, rfl⟩ := List.getElem?_eq_some_iff.1 hx
  obtain ⟨h2, rfl⟩ := List.getElem?_eq_some_iff.1 hj
  exact hnm _ j h1 h2 hi hn
theorem entN_none {es : List Ent} {n : ByteArray} (h : n ∉ es.map Ent.nm) : entN es n = none :=
  entN_no (fun _ x hx hn => h (List.mem_map.2 ⟨x, List.mem_of_getElem? hx, hn⟩))
theorem std_get {q : List Itm} (hq : PlOk q) : ∀ (k : Nat) (d : Dig) (l : List Fl), OkL l → Std q k d l → ∀ (m : Nat) (s : ByteArray), pathB s = true → s.size < m →
    (∀ b, (s, b) ∈ l → getF q m d s = (b, 0)) ∧ ((∀ f ∈ l, f.1 ≠ s) → (getF q m d s).2 ≠ 0 ∧ ((∀ f ∈ l, belB f.1 s = false ∧ belB s f.1 = false) → (getF q m d s).2 = 8)) := by
  intro k
  induction k with
  | zero => intro d l _ h; exact h.elim
  | succ k ih =>
    rintro d l hl hst m s hps hsm
    have hst0 := hst
    obtain ⟨es, h1, h2, h3⟩ := hst
    obtain ⟨m, rfl⟩ : ∃ m', m = m' + 1 := ⟨m - 1, by omega⟩
    have hes : OkEs es := okO_tree (o := treeO es) (getP_ok hq h1) rfl
    by_cases hmem : fsN s ∈ es.map Ent.nm
    · obtain ⟨e, he, hen⟩ := List.mem_map.1 hmem
      have hent : entN (treeO es).ents (fsN s) = some e := by rw [← hen]; exact entN_mem hes he
      rcases h3 e he with ⟨a, b, c, f⟩ | ⟨a, b, c, f⟩
      · cases hd : deN s with
        | true =>
          have hg : getF q (m + 1) d s = (⟨#[]⟩, 9) := getF_dir h1 rfl hent (by rw [a, hd]; simp)
          have hb : belB e.nm s = true := (belB_iff _ _).2 ⟨bl (rsN s), by rw [hen]; exact cut_deep hd⟩
          refine ⟨fun b' hb' => ?_, fun hno => ⟨by rw [hg]; simp, fun hall => ?_⟩⟩
          · have := hl.nob _ c _ hb'
            simp only at this
            rw [hb] at this; cases this
          · have := (hall _ c).1
            simp only at this
            rw [hb] at this; cases this
        | false =>
          have hfl := cut_flat hd
          have hg : getF q (m + 1) d s = (b, 0) := by rw [getF_file h1 rfl hent a hd, datP_some f rfl]; rfl
          have hes' : e.nm = s := by rw [hen, hfl]
          rw [hes'] at c
          refine ⟨fun b' hb' => ?_, fun hno => absurd rfl (hno _ c)⟩
          have h4 := (look9_some hl.nod).2 c
          rw [(look9_some hl.nod).2 hb'] at h4
          cases h4; exact hg
      · cases hd : deN s with
        | true =>
          have hg : getF q (m + 1) d s = getF q m e.dg (rsN s) := getF_sub h1 rfl hent a hd
          have hr := path_rest hps hd
          obtain ⟨i1, i2⟩ := ih e.dg (inD l e.nm) (hl.sub _) f m (rsN s) hr.1 (by omega)
          have hse := deep_eq hd
          refine ⟨fun b' hb' => ?_, fun hno => ?_⟩
          · rw [hg]; exact i1 b' (mem_inD.2 ⟨_, hb', hd, hen.symm, rfl⟩)
          · rw [hg]
            obtain ⟨j1, j2⟩ := i2 (fun x hx h0 => by
              obtain ⟨g, hg, g1, g2, rfl⟩ := mem_inD.1 hx
              exact hno g hg (cut_eq g1 hd (g2.trans hen) h0))
            refine ⟨j1, fun hall => j2 (fun x hx => ?_)⟩
            obtain ⟨g, hg, g1, g2, rfl⟩ := mem_inD.1 hx
            obtain ⟨k1, k2⟩ := hall g hg
            refine ⟨?_, ?_⟩
            · rw [Bool.eq_false_iff] at k1 ⊢
              intro h0
              obtain ⟨r, hr⟩ := (belB_iff _ _).1 h0
              simp only at hr
              refine k1 ((belB_iff _ _).2 ⟨r, ?_⟩)
              rw [cut_deep hd, cut_deep g1, g2, hen, hr]; simp
            · rw [Bool.eq_false_iff] at k2 ⊢
              intro h0
              obtain ⟨r, hr⟩ := (belB_iff _ _).1 h0
              simp only at hr
              refine k2 ((belB_iff _ _).2 ⟨r, ?_⟩)
              rw [cut_deep hd, cut_deep g1, g2, hen, hr]; simp
        | false =>
          have hg : getF q (m + 1) d s = (⟨#[]⟩, 9) := getF_dir h1 rfl hent (by rw [a, hd]; simp)
          have hfl := cut_flat hd
          refine ⟨fun b' hb' => absurd (by rw [hen, hfl]) (c _ hb'), fun hno => ⟨by rw [hg]; simp, fun hall => ?_⟩⟩
          obtain ⟨x, hx⟩ := List.exists_mem_of_ne_nil _ b
          obtain ⟨g, hg, g1, g2, rfl⟩ := mem_inD.1 hx
          have := (hall g hg).2
          rw [Bool.eq_false_iff] at this
          refine absurd ((belB_iff _ _).2 ⟨bl (rsN g.1), ?_⟩) this
          rw [cut_deep g1, g2, hen, hfl]
    · have hg : getF q (m + 1) d s = (⟨#[]⟩, 8) := getF_ent h1 rfl (entN_none hmem)
      refine ⟨fun b hb => ?_, fun _ => ⟨by rw [hg]; simp, fun _ => by rw [hg]⟩⟩
      refine absurd ?_ hmem
      rw [h2, nms_mem]
      exact ⟨_, hb, rfl⟩
def slaN (s : ByteArray) : Nat := (bl s).count 47
theorem count_nosl {l : List UInt8} (h : ∀ c ∈ l, c ≠ 47) : l.count 47 = 0 := List.count_eq_zero.2 (fun hm => h 47 hm rfl)
theorem sla_deep {s : ByteArray} (h : deN s = true) : slaN s = slaN (rsN s) + 1 := by
  unfold slaN
  rw [cut_deep h, List.count_append, List.count_cons_self, count_nosl (fsN_nosl s)]; omega
def Chd (l l' : List Fl) (f : Fl) : Prop := ∀ g, g ∈ l' ↔ (g ∈ l ∧ g.1 ≠ f.1) ∨ g = f
theorem Chd.sub {l l' : List Fl} {f : Fl} (h : Chd l l' f) (hd : deN f.1 = true) : Chd (inD l (fsN f.1)) (inD l' (fsN f.1)) (rsN f.1, f.2) := by
  intro x
  rw [mem_inD]
  constructor
  · rintro ⟨g, hg, g1, g2, rfl⟩
    rcases (h g).1 hg with ⟨a, b⟩ | rfl
    · exact .inl ⟨mem_inD.2 ⟨g, a, g1, g2, rfl⟩, fun e => b (cut_eq g1 hd g2 e)⟩
    · exact .inr rfl
  · rintro (⟨a, b⟩ | rfl)
    · obtain ⟨g, hg, g1, g2, rfl⟩ := mem_inD.1 a
      exact ⟨g, (h g).2 (.inl ⟨hg, fun e => b (by simp only; rw [e])⟩), g1, g2, rfl⟩
    · exact ⟨f, (h f).2 (.inr rfl), hd, rfl, rfl⟩
theorem inD_nodup {l : List Fl} (h : OkL l) (n : ByteArray) : (inD l n).Nodup := nodup_of_map Prod.fst (h.sub n).nod
theorem Chd.other {l l' : List Fl} {f : Fl} (h : Chd l l' f) (hl : OkL l) (hl' : OkL l') {n : ByteArray} (hn : n ≠ fsN f.1) : (inD l n).Perm (inD l' n) := by
  refine (List.perm_ext_iff_of_nodup (inD_nodup hl n) (inD_nodup hl' n)).2 (fun x => ?_)
  rw [mem_inD, mem_inD]
  constructor
  · rintro ⟨g, hg, g1, g2, e⟩
    exact ⟨g, (h g).2 (.inl ⟨hg, fun e' => hn (by rw [← g2, e'])⟩), g1, g2, e⟩
  · rintro ⟨g, hg, g1, g2, e⟩
    rcases (h g).1 hg with ⟨a, _⟩ | rfl
    · exact ⟨g, a, g1, g2, e⟩
    · exact absurd g2.symm hn
theorem Chd.look {l l' : List Fl} {f : Fl} (h : Chd l l' f) (hl : OkL l) (hl' : OkL l') {n : ByteArray} (hn : n ≠ f.1) : lookF9 l' n = lookF9 l n := by
  cases hk : lookF9 l n with
  | some s => exact (look9_some hl'.nod).2 ((h _).2 (.inl ⟨(look9_some hl.nod).1 hk, hn⟩))
  | none =>
    rw [look9_none]
    intro g hg e
    rcases (h g).1 hg with ⟨a, _⟩ | rfl
    · exact look9_none.1 hk g a e
    · exact hn e.symm
theorem sto_same {q : List Itm} (hq : PlOk q) {k : Nat} {d : Dig} {l l' : List Fl} (hl' : OkL l') (hp : l.Perm l') (h : Std q k d l) : sto k q l' = some (q, d) := std_sto hq k d l' hl' (h.perm hp)
theorem share_ents {k : Nat} {l l' : List Fl} {f : Fl} {p0 : List Itm} {d0 : Dig} (hl : OkL l) (hl' : OkL l') (hc : Chd l l' f) (hp0 : PlOk p0) (hst : l ≠ [] → Std p0 (k + 1) d0 l) (B : Nat)
    (hsub : deN f.1 = true → ∀ (p q : List Itm) (d : Dig), PlOk p → subP p0 p → sto k p (inD l' (fsN f.1)) = some (q, d) → q.length ≤ p.length + B) (hB : 1 ≤ B) :
    ∀ (ns : List ByteArray) (p : List Itm) (es : List Ent) (q : List Itm) (es' : List Ent), ns.Nodup → PlOk p → subP p0 p → (∀ n ∈ ns, n ∈ nmsP l') → stoE (sto k) l' p ns es = some (q, es') → q.length ≤ p.length + (if memB ns (fsN f.1) = true then B else 0) := by
  have hall := sto_std k
  intro ns
  induction ns with
  | nil => intro p es q es' _ _ _ _ h; rw [stoE] at h; cases h; simp
  | cons n r ih =>
    intro p es q es' hnd hp hsp hns h
    have hnd' := List.nodup_cons.1 hnd
    have hnm := hns n (by simp)
    have hif : fsN f.1 ≠ n → (if memB (n :: r) (fsN f.1) = true then B else 0) = if memB r (fsN f.1) = true then B else 0 := fun hne => by
      by_cases hm : fsN f.1 ∈ r
      · rw [if_pos ((memB_iff _ _).2 hm), if_pos ((memB_iff _ _).2 (by simp [hm]))]
      · rw [if_neg (fun h => hm ((memB_iff _ _).1 h)), if_neg (fun h => by
          rcases List.mem_cons.1 ((memB_iff _ _).1 h) with e | e
          · exact hne e
          · exact hm e)]
    have hif2 : fsN f.1 = n → (if memB (n :: r) (fsN f.1) = true then B else 0) = B ∧ (if memB r (fsN f.1) = true then B else 0) = 0 := fun he => by
      refine ⟨if_pos ((memB_iff _ _).2 (by simp [he])), if_neg (fun h => hnd'.1 (by rw [← he]; exact (memB_iff _ _).1 h))⟩
    -- what is stored already
    have hold : fsN f.1 ≠ n → ∃ e, e.nm = n ∧ EntS p (Std p k) l e := fun hne => by
      obtain ⟨g, hg, hgn⟩ := nms_mem.1 hnm
      rcases (hc g).1 hg with ⟨a, _⟩ | rfl
      · have hl0 : l ≠ [] := fun e => by rw [e] at a; cases a
        obtain ⟨es0, h1, h2, h3⟩ := hst hl0
        have : n ∈ es0.map Ent.nm := by rw [h2, nms_mem]; exact ⟨g, a, hgn⟩
        obtain ⟨e, he, hen⟩ := List.mem_map.1 this
        exact ⟨e, hen, (h3 e he).mono hp0 hp hsp (fun d l h => h.mono hp0 hp hsp)⟩
      · exact absurd hgn.symm hne
    cases hk : lookF9 l' n with
    | some s =>
      have hm := (look9_some hl'.nod).1 hk
      cases hpp : putP p (blobO s) with
      | none => rw [stoE_filex hk hpp] at h; cases h
      | some p1 =>
        rw [stoE_file hk hpp] at h
        have hob := okO_blob (hl'.data _ hm)
        have hp1 := putP_ok hp hob hpp
        have hs1 := putP_sub hp hpp
        have hlen := ih p1 _ q es' hnd'.2 hp1 (hsp.trans hs1) (fun m hm => hns m (by simp [hm])) h
        have hpl := putP_len hpp
        by_cases hfn : fsN f.1 = n
        · obtain ⟨e1, e2⟩ := hif2 hfn
          rw [e2] at hlen; rw [e1]; omega
        · rw [hif hfn]
          obtain ⟨e, hen, hE⟩ := hold hfn
          have hne : n ≠ f.1 := fun h0 => hfn (by
            obtain ⟨g, hg, hgn⟩ := nms_mem.1 hnm
            rw [← h0, hgn]; exact (cut_no (fsN_nosl _)).1)
          rw [hc.look hl hl' hne] at hk
          have hm0 := (look9_some hl.nod).1 hk
          rcases hE with ⟨_, s', b, c⟩ | ⟨_, _, c, _⟩
          · rw [hen] at b
            have h4 := (look9_some hl.nod).2 b
            rw [hk] at h4
            cases h4
            have hd := getP_dg hp c
            have := putP_again hp (by rw [← hd]; exact c)
            rw [this] at hpp
            cases hpp
            exact hlen
          · exact absurd hen.symm (c _ hm0)
    | none =>
      cases hpp : sto k p (inD l' n) with
      | none => rw [stoE_dirx hk hpp] at h; cases h
      | some pd =>
        obtain ⟨p1, d1⟩ := pd
        rw [stoE_dir hk hpp] at h
        obtain ⟨h1, hp1, hs1⟩ := hall p _ p1 d1 (hl'.sub n) hp hpp
        have hlen := ih p1 _ q es' hnd'.2 hp1 (hsp.trans hs1) (fun m hm => hns m (by simp [hm])) h
        by_cases hfn : fsN f.1 = n
        · obtain ⟨e1, e2⟩ := hif2 hfn
          rw [e2] at hlen; rw [e1]
          have hdf : deN f.1 = true := by
            cases hdf : deN f.1 with
            | true => rfl
            | false =>
              have := look9_none.1 hk f ((hc f).2 (.inr rfl))
              rw [cut_flat hdf] at hfn
              exact absurd hfn this
          have := hsub hdf p p1 d1 hp hsp (by rw [hfn]; exact hpp)
          omega
        · rw [hif hfn]
          obtain ⟨e, hen, hE⟩ := hold hfn
          have hne : n ≠ f.1 := fun h0 => hfn (by
            obtain ⟨g, hg, hgn⟩ := nms_mem.1 hnm
            rw [← h0, hgn]; exact (cut_no (fsN_nosl _)).1)
          rw [hc.look hl hl' hne] at hk
          rcases hE with ⟨_, s', b, _⟩ | ⟨_, _, _, c⟩
          · rw [hen] at b
            exact absurd rfl (look9_none.1 hk _ b)
          · rw [hen] at c
            rw [sto_same hp (hl'.sub n) (hc.other hl hl' (fun e => hfn e.symm)) c] at hpp
            cases hpp
            exact hlen
theorem share : ∀ (k : Nat) (l l' : List Fl) (f : Fl) (p : List Itm) (d0 : Dig) (q : List Itm) (d : Dig), OkL l → OkL l' → Chd l l' f → PlOk p → (l ≠ [] → Std p k d0 l) → sto k p l' = some (q, d) → q.length ≤ p.length + 2 + slaN f.1 := by
  intro k
  induction k with
  | zero => intro l l' f p d0 q d _ _ _ _ _ h; rw [sto] at h; cases h
  | succ k ih =>
    intro l l' f p d0 q d hl hl' hc hp hst h
    rw [sto] at h
    cases hE : stoE (sto k) l' p (nmsP l') [] with
    | none => rw [hE] at h; cases h
    | some pe =>
      obtain ⟨p1, es⟩ := pe
      rw [hE] at h
      simp only at h
      cases hpp : putP p1 (treeO es) with
      | none => rw [hpp] at h; cases h
      | some p2 =>
        rw [hpp] at h
        cases h
        have h1 := putP_len hpp
        have hsla : deN f.1 = true → 1 ≤ slaN f.1 := fun hd => by rw [sla_deep hd]; omega
        have key := share_ents (k := k) hl hl' hc hp hst (1 + slaN f.1) (fun hd p' q' d' hp' hs' hq' => by
          have hin : inD l (fsN f.1) ≠ [] → ∃ dd, Std p' k dd (inD l (fsN f.1)) := fun hne => by
            obtain ⟨x, hx⟩ := List.exists_mem_of_ne_nil _ hne
            obtain ⟨g, hg, g1, g2, _⟩ := mem_inD.1 hx
            have hl0 : l ≠ [] := fun e => by rw [e] at hg; cases hg
            obtain ⟨es0, e1, e2, e3⟩ := hst hl0
            have : fsN f.1 ∈ es0.map Ent.nm := by rw [e2, nms_mem]; exact ⟨g, hg, g2.symm⟩
            obtain ⟨e, he, hen⟩ := List.mem_map.1 this
            rcases e3 e he with ⟨_, s, b, _⟩ | ⟨_, _, _, c⟩
            · have h5 := hl.nob _ b g hg
              rw [Bool.eq_false_iff] at h5
              refine absurd ((belB_iff _ _).2 ⟨bl (rsN g.1), ?_⟩) h5
              rw [cut_deep g1, g2, hen]
            · rw [hen] at c
              exact ⟨e.dg, c.mono hp hp' hs'⟩
          have hrs := sla_deep hd
          by_cases hne : inD l (fsN f.1) = []
          · have := ih (inD l (fsN f.1)) (inD l' (fsN f.1)) (rsN f.1, f.2) p' zD q' d' (hl.sub _) (hl'.sub _) (hc.sub hd) hp' (fun h => absurd hne h) hq'
            simp only at this; omega
          · obtain ⟨dd, hdd⟩ := hin hne
            have := ih (inD l (fsN f.1)) (inD l' (fsN f.1)) (rsN f.1, f.2) p' dd q' d' (hl.sub _) (hl'.sub _) (hc.sub hd) hp' (fun _ => hdd) hq'
            simp only at this; omega) (by omega) (nmsP l') p [] p1 es (nms_asc l').nodup hp (subP.refl _) (fun n hn => hn) hE
        have : (if memB (nmsP l') (fsN f.1) = true then 1 + slaN f.1 else 0) ≤ 1 + slaN f.1 := by split <;> omega
        omega
end Go.Proofs.YtmdhlkkekidknaaGreatDoor

namespace Go.Proofs.YtmdhlkkekidknaaGreatDoor
open Go.RowKit

theorem tchk_up : ∀ {p : Option ByteArray} {fs : List Fl}, tchk p fs = 0 → (∀ f ∈ fs, upB p f.1 = true) ∧ AscF fs ∧ ∀ f ∈ fs, pathB f.1 = true
  | p, [], _ => ⟨fun f h => (by cases h), List.Pairwise.nil, fun f h => (by cases h)⟩
  | p, f :: r, h => by
    unfold tchk at h
    by_cases h1 : pathB f.1 = true
    · rw [if_pos h1] at h
      by_cases h2 : upB p f.1 = true
      · rw [if_pos h2] at h
        obtain ⟨i1, i2, i3⟩ := tchk_up h
        refine ⟨fun g hg => ?_, List.pairwise_cons.2 ⟨fun g hg => i1 g hg, i2⟩, fun g hg => ?_⟩
        · rcases List.mem_cons.1 hg with rfl | hg
          · exact h2
          · cases p with
            | none => rfl
            | some q => exact lessB_trans h2 (i1 g hg)
        · rcases List.mem_cons.1 hg with rfl | hg
          · exact h1
          · exact i3 g hg
      · rw [if_neg h2] at h; cases h
    · rw [if_neg h1] at h; cases h
theorem tchk_back : ∀ {p : Option ByteArray} {fs : List Fl}, (∀ f ∈ fs, upB p f.1 = true) → AscF fs → (∀ f ∈ fs, pathB f.1 = true) → tchk p fs = 0
  | p, [], _, _, _ => rfl
  | p, f :: r, h1, h2, h3 => by
    unfold tchk
    rw [if_pos (h3 f (by simp)), if_pos (h1 f (by simp))]
    exact tchk_back (fun g hg => h2.head hg) h2.tail (fun g hg => h3 g (by simp [hg]))
theorem ck_ok {fs : List Fl} (h : TckR fs 0) (hd : ∀ f ∈ fs, f.2.size ≤ 60000) : OkL fs ∧ AscF fs := by
  rcases h with ⟨_, h⟩ | ⟨_, h1, h2⟩ | ⟨h1, h2, h3⟩
  · cases h
  · exact absurd h2.symm h1
  · obtain ⟨_, h4, h5⟩ := tchk_up h2
    rcases h3 with ⟨_, h⟩ | ⟨h3, _⟩
    · cases h
    · refine ⟨⟨h5, hd, h1, asc_nodup h4, fun f hf g hg => ?_⟩, h4⟩
      cases hb : belB f.1 g.1 with
      | false => rfl
      | true => exact absurd (dirE_of hf hg hb) h3
theorem ck_back {fs : List Fl} (h : OkL fs) (ha : AscF fs) : TckR fs 0 :=
  .inr (.inr ⟨h.few, tchk_back (fun _ _ => rfl) ha h.path, .inr ⟨dirE_no h.nob, rfl⟩⟩)
theorem ck_with {l : List Fl} {f : Fl} {err : Int} (hl : OkL l) (ha : AscF l) (hn : l.length ≤ 199) (hp : pathB f.1 = true) (h : TckR (withF l f) err) : err = 0 ∨ err = 7 := by
  have hlen := withF_len l f
  have ht : tchk none (withF l f) = 0 := tchk_back (fun _ _ => rfl) (asc_withF ha f) (fun g hg => by
    rcases mem_withF.1 hg with ⟨h1, _⟩ | rfl
    · exact hl.path g h1
    · exact hp)
  rcases h with ⟨h, _⟩ | ⟨_, h1, _⟩ | ⟨_, _, h3⟩
  · omega
  · exact absurd ht h1
  · rcases h3 with ⟨_, h⟩ | ⟨_, h⟩
    · exact .inr h
    · exact .inl h
theorem chd_with (l : List Fl) (f : Fl) : Chd l (withF l f) f := fun _ => mem_withF
end Go.Proofs.YtmdhlkkekidknaaGreatDoor

namespace Go.Proofs.YtmdhlkkekidknaaGreatDoor
open Go.RowKit

def sA : ByteArray := ⟨#[97]⟩
def sAX : ByteArray := ⟨#[97, 47, 120]⟩
def sX : ByteArray := ⟨#[120]⟩
def sB : ByteArray := ⟨#[98]⟩
def s1 : ByteArray := ⟨#[49]⟩
def s2 : ByteArray := ⟨#[50]⟩
def s3 : ByteArray := ⟨#[51]⟩
def awL : List Fl := [(sAX, s1), (sB, s2)]
theorem encT_s (s : ByteArray) (h : s.size < 128) : encT (toL s) = UInt8.ofNat s.size :: toL s := by
  unfold encT
  have : (toL s).length = s.size := by simp [toL]
  rw [this, encN_small h]; rfl
theorem enc_blob (s : ByteArray) (h : s.size < 128) : encO (blobO s) = 1 :: UInt8.ofNat s.size :: toL s := by
  show encN 1 ++ encT (toL s) = _
  rw [encN_small (by omega), encT_s s h]; rfl
theorem encE_s (e : Ent) (h : e.nm.size < 128) : encE e = UInt8.ofNat e.nm.size :: toL e.nm ++ (if e.dir = true then 1 else 0) :: digB e.dg := by
  unfold encE
  rw [encT_s _ h]
  cases e.dir <;> rw [encN_small (by simp)] <;> simp
theorem enc_tree (es : List Ent) (h : es.length < 128) : encO (treeO es) = 2 :: UInt8.ofNat es.length :: es.flatMap encE := by
  show encN 2 ++ (encN es.length ++ es.flatMap encE) = _
  rw [encN_small (n := 2) (by omega), encN_small h]; rfl
def xB1 : Itm := (ofB [1, 1, 49], ofL [1, 1, 49])
def xB2 : Itm := (ofB [1, 1, 50], ofL [1, 1, 50])
def bT : Bytes := [2, 1, 1, 120, 0] ++ digB (ofB [1, 1, 49])
def xT : Itm := (ofB bT, ofL bT)
def bR : Bytes := [2, 2, 1, 97, 1] ++ digB (ofB bT) ++ [1, 98, 0] ++ digB (ofB [1, 1, 50])
def xR : Itm := (ofB bR, ofL bR)
def q1 : List Itm := (insP [] xB1).getD []
def q2 : List Itm := (insP q1 xT).getD []
def q3 : List Itm := (insP q2 xB2).getD []
def q4 : List Itm := (insP q3 xR).getD []
theorem some_of {α : Type} {o : Option (List α)} (h : o.isSome = true) : o = some (o.getD []) := by cases o with | none => cases h | some _ => rfl
theorem i1 : insP [] xB1 = some q1 := some_of (by decide +kernel)
theorem i2 : insP q1 xT = some q2 := some_of (by decide +kernel)
theorem i3 : insP q2 xB2 = some q3 := some_of (by decide +kernel)
theorem i4 : insP q3 xR = some q4 := some_of (by decide +kernel)
theorem q4_len : q4.length = 4 := by decide +kernel
theorem put1 : putP [] (blobO s1) = some q1 := by unfold putP; rw [enc_blob s1 (by decide)]; exact i1
theorem put3 : putP q2 (blobO s2) = some q3 := by unfold putP; rw [enc_blob s2 (by decide)]; exact i3
theorem dg1_eq : dgO (blobO s1) = ofB [1, 1, 49] := by unfold dgO; rw [enc_blob s1 (by decide)]; rfl
theorem dg2_eq : dgO (blobO s2) = ofB [1, 1, 50] := by unfold dgO; rw [enc_blob s2 (by decide)]; rfl
theorem encT1 : encO (treeO [⟨sX, false, ofB [1, 1, 49]⟩]) = bT := by
  rw [enc_tree _ (by decide), List.flatMap_cons, List.flatMap_nil, encE_s _ (by decide)]; rfl
theorem encR1 : encO (treeO [⟨sA, true, ofB bT⟩, ⟨sB, false, ofB [1, 1, 50]⟩]) = bR := by
  rw [enc_tree _ (by decide), List.flatMap_cons, List.flatMap_cons, List.flatMap_nil, encE_s _ (by decide), encE_s _ (by decide)]
  rfl
theorem nm1 : nmsP awL = [sA, sB] := by decide +kernel
theorem nm2 : nmsP [(sX, s1)] = [sX] := by decide +kernel
theorem in1 : inD awL sA = [(sX, s1)] := by decide +kernel
theorem sto_sub (k : Nat) : sto (k + 1) [] [(sX, s1)] = some (q2, ofB bT) := by
  rw [sto, nm2, stoE_file (s := s1) (by decide +kernel) put1, stoE, List.nil_append, dg1_eq]
  simp only
  have : putP q1 (treeO [⟨sX, false, ofB [1, 1, 49]⟩]) = some q2 := by unfold putP; rw [encT1]; exact i2
  rw [this]
  simp only [dgO, encT1]
theorem sto_aw : sto 101 [] awL = some (q4, ofB bR) := by
  rw [sto, nm1, stoE_dir (by decide +kernel) (by rw [in1]; exact sto_sub 99), stoE_file (s := s2) (by decide +kernel) put3, stoE, List.nil_append, dg2_eq]
  simp only [List.cons_append, List.nil_append]
  have : putP q3 (treeO [⟨sA, true, ofB bT⟩, ⟨sB, false, ofB [1, 1, 50]⟩]) = some q4 := by unfold putP; rw [encR1]; exact i4
  rw [this]
  simp only [dgO, encR1]
end Go.Proofs.YtmdhlkkekidknaaGreatDoor

namespace Go.Proofs
open Go.Shelf
def Tryz.laysGsp_ren : Go.Shelf.Ren := ⟨fun | 221 => 117 | 268 => 166 | 138 => 21 | 143 => 54 | 195 => 52 | 197 => 186 | 218 => 53 | 219 => 105 | 260 => 209 | 217 => 136 | 225 => 137 | 224 => 138 | 267 => 139 | 266 => 188 | 314 => 189 | n => n, fun | 9 => 9 | 3 => 3 | 31 => 96 | 4 => 4 | 0 => 0 | 105 => 204 | 21 => 21 | 5 => 5 | 46 => 144 | 119 => 237 | 139 => 240 | 138 => 239 | 146 => 207 | 51 => 176 | n => n, fun | 1 => 0 | 3 => 1 | 4 => 2 | n => n⟩
theorem Tryz.laysGsp : Go.Proofs.Lays.n221 Tryz.prog Tryz.laysGsp_ren := {
  mixed := by kernel_rfl
  f138 := Tryz.func21.trans (congrArg some (by kernel_rfl))
  f143 := Tryz.func54.trans (congrArg some (by kernel_rfl))
  f195 := Tryz.func52.trans (congrArg some (by kernel_rfl))
  f197 := Tryz.func186.trans (congrArg some (by kernel_rfl))
  f217 := Tryz.func136.trans (congrArg some (by kernel_rfl))
  f218 := Tryz.func53.trans (congrArg some (by kernel_rfl))
  f219 := Tryz.func105.trans (congrArg some (by kernel_rfl))
  f221 := Tryz.func117.trans (congrArg some (by kernel_rfl))
  f224 := Tryz.func138.trans (congrArg some (by kernel_rfl))
  f225 := Tryz.func137.trans (congrArg some (by kernel_rfl))
  f260 := Tryz.func209.trans (congrArg some (by kernel_rfl))
  f266 := Tryz.func188.trans (congrArg some (by kernel_rfl))
  f267 := Tryz.func139.trans (congrArg some (by kernel_rfl))
  f268 := Tryz.func166.trans (congrArg some (by kernel_rfl))
  f314 := Tryz.func189.trans (congrArg some (by kernel_rfl))
  t0 := Tryz.underlying0
  a0 := Tryz.isAgg0
  z0 := Tryz.sizeOf0
  v0 := Tryz.zeroValue0
  t3 := Tryz.underlying3
  a3 := Tryz.isAgg3
  z3 := Tryz.sizeOf3
  v3 := Tryz.zeroValue3
  t4 := Tryz.underlying4
  a4 := Tryz.isAgg4
  z4 := Tryz.sizeOf4
  v4 := Tryz.zeroValue4
  t5 := Tryz.underlying5
  a5 := Tryz.isAgg5
  z5 := Tryz.sizeOf5
  v5 := Tryz.zeroValue5
  t9 := Tryz.underlying9
  a9 := Tryz.isAgg9
  z9 := Tryz.sizeOf9
  v9 := Tryz.zeroValue9
  t21 := Tryz.underlying21
  a21 := Tryz.isAgg21
  z21 := Tryz.sizeOf21
  v21 := Tryz.zeroValue21
  t31 := Tryz.underlying96
  a31 := Tryz.isAgg96
  z31 := Tryz.sizeOf96
  v31 := Tryz.zeroValue96
  t46 := Tryz.underlying144
  a46 := Tryz.isAgg144
  z46 := Tryz.sizeOf144
  v46 := Tryz.zeroValue144
  t51 := Tryz.underlying176
  a51 := Tryz.isAgg176
  z51 := Tryz.sizeOf176
  v51 := Tryz.zeroValue176
  t105 := Tryz.underlying204
  a105 := Tryz.isAgg204
  z105 := Tryz.sizeOf204
  v105 := Tryz.zeroValue204
  t119 := Tryz.underlying237
  a119 := Tryz.isAgg237
  z119 := Tryz.sizeOf237
  t138 := Tryz.underlying239
  a138 := Tryz.isAgg239
  z138 := Tryz.sizeOf239
  v138 := Tryz.zeroValue239
  t139 := Tryz.underlying240
  a139 := Tryz.isAgg240
  z139 := Tryz.sizeOf240
  v139 := Tryz.zeroValue240
  t146 := Tryz.underlying207
  a146 := Tryz.isAgg207
  z146 := Tryz.sizeOf207
  v146 := Tryz.zeroValue207
  g1 := by kernel_rfl
  g3 := by kernel_rfl
  g4 := by kernel_rfl }
def Tryz.idxEnt_ren : Go.Shelf.Ren := ⟨fun | 6 => 70 | n => n, fun | 22 => 79 | 23 => 102 | 25 => 103 | 3 => 3 | 0 => 0 | 4 => 4 | n => n, fun | n => n⟩
theorem Tryz.idxEnt : Go.Proofs.SlLaysH0.n6 Tryz.prog Tryz.idxEnt_ren := {
  mixed := by kernel_rfl
  f6 := ⟨Tryz.f70.name, by decide, Tryz.func70.trans (congrArg some (by kernel_rfl))⟩
  t0 := Tryz.underlying0
  a0 := Tryz.isAgg0
  z0 := Tryz.sizeOf0
  v0 := Tryz.zeroValue0
  t3 := Tryz.underlying3
  a3 := Tryz.isAgg3
  z3 := Tryz.sizeOf3
  v3 := Tryz.zeroValue3
  t4 := Tryz.underlying4
  a4 := Tryz.isAgg4
  z4 := Tryz.sizeOf4
  v4 := Tryz.zeroValue4
  t22 := Tryz.underlying79
  a22 := Tryz.isAgg79
  z22 := Tryz.sizeOf79
  v22 := Tryz.zeroValue79
  t25 := Tryz.underlying103
  a25 := Tryz.isAgg103
  z25 := Tryz.sizeOf103
  v25 := Tryz.zeroValue103 }
def Tryz.keysF_ren : Go.Shelf.Ren := ⟨fun | 7 => 89 | 10 => 128 | n => n, fun | 23 => 124 | 26 => 9 | 3 => 68 | 28 => 115 | 0 => 0 | 27 => 114 | 33 => 70 | 4 => 4 | n => n, fun | n => n⟩
theorem Tryz.keysF : Go.Proofs.SlLaysZ.n7 Tryz.prog Tryz.keysF_ren := {
  mixed := by kernel_rfl
  f7 := ⟨Tryz.f89.name, by decide, Tryz.func89.trans (congrArg some (by kernel_rfl))⟩
  f10 := ⟨Tryz.f128.name, by decide, Tryz.func128.trans (congrArg some (by kernel_rfl))⟩
  t0 := Tryz.underlying0
  a0 := Tryz.isAgg0
  z0 := Tryz.sizeOf0
  v0 := Tryz.zeroValue0
  t4 := Tryz.underlying4
  a4 := Tryz.isAgg4
  z4 := Tryz.sizeOf4
  v4 := Tryz.zeroValue4
  t23 := Tryz.underlying124
  a23 := Tryz.isAgg124
  z23 := Tryz.sizeOf124
  v23 := Tryz.zeroValue124
  t26 := Tryz.underlying9
  a26 := Tryz.isAgg9
  z26 := Tryz.sizeOf9
  v26 := Tryz.zeroValue9
  t27 := Tryz.underlying114
  a27 := Tryz.isAgg114
  z27 := Tryz.sizeOf114
  v27 := Tryz.zeroValue114
  t28 := Tryz.underlying115
  a28 := Tryz.isAgg115
  z28 := Tryz.sizeOf115
  v28 := Tryz.zeroValue115
  t33 := Tryz.underlying70
  a33 := Tryz.isAgg70
  z33 := Tryz.sizeOf70
  v33 := Tryz.zeroValue70 }
def Tryz.keysB_ren : Go.Shelf.Ren := ⟨fun | 7 => 91 | 10 => 129 | n => n, fun | 23 => 123 | 26 => 9 | 3 => 24 | 28 => 115 | 0 => 0 | 27 => 114 | 33 => 70 | 4 => 4 | n => n, fun | n => n⟩
theorem Tryz.keysB : Go.Proofs.SlLaysZ.n7 Tryz.prog Tryz.keysB_ren := {
  mixed := by kernel_rfl
  f7 := ⟨Tryz.f91.name, by decide, Tryz.func91.trans (congrArg some (by kernel_rfl))⟩
  f10 := ⟨Tryz.f129.name, by decide, Tryz.func129.trans (congrArg some (by kernel_rfl))⟩
  t0 := Tryz.underlying0
  a0 := Tryz.isAgg0
  z0 := Tryz.sizeOf0
  v0 := Tryz.zeroValue0
  t4 := Tryz.underlying4
  a4 := Tryz.isAgg4
  z4 := Tryz.sizeOf4
  v4 := Tryz.zeroValue4
  t23 := Tryz.underlying123
  a23 := Tryz.isAgg123
  z23 := Tryz.sizeOf123
  v23 := Tryz.zeroValue123
  t26 := Tryz.underlying9
  a26 := Tryz.isAgg9
  z26 := Tryz.sizeOf9
  v26 := Tryz.zeroValue9
  t27 := Tryz.underlying114
  a27 := Tryz.isAgg114
  z27 := Tryz.sizeOf114
  v27 := Tryz.zeroValue114
  t28 := Tryz.underlying115
  a28 := Tryz.isAgg115
  z28 := Tryz.sizeOf115
  v28 := Tryz.zeroValue115
  t33 := Tryz.underlying70
  a33 := Tryz.isAgg70
  z33 := Tryz.sizeOf70
  v33 := Tryz.zeroValue70 }
end Go.Proofs

namespace Go.Proofs.YtmdhlkkekidknaaGreatDoor
open Go.RowKit

structure Gb (p : Nat → Prop) (w w' : World) : Prop where
  os : w'.os = w.os
  tape : w'.tape = w.tape
  output : w'.output = w.output
  size : w.heap.size ≤ w'.heap.size
  block : ∀ k, k < w.heap.size → ¬ p k → w'.heap[k]? = w.heap[k]?
section
variable {p q : Nat → Prop} {a b c : World}
theorem Gb.refl (p : Nat → Prop) (w : World) : Gb p w w := ⟨rfl, rfl, rfl, Nat.le_refl _, fun _ _ _ => rfl⟩
theorem Gb.trans (h : Gb p a b) (k : Gb p b c) : Gb p a c := ⟨k.os.trans h.os, k.tape.trans h.tape, k.output.trans h.output, Nat.le_trans h.size k.size, fun i hi hp => (k.block i (Nat.lt_of_lt_of_le hi h.size) hp).trans (h.block i hi hp)⟩
theorem Gb.mono (h : Gb p a b) (hq : ∀ k, k < a.heap.size → p k → q k) : Gb q a b := ⟨h.os, h.tape, h.output, h.size, fun i hi hn => h.block i hi (fun hp => hn (hq i hi hp))⟩
theorem Gb.of_below (h : Below a.heap.size a b) : Gb p a b := ⟨h.os, h.tape, h.output, h.size, fun i hi _ => h.block i hi⟩
theorem Gb.below {B : Nat} (h : Gb p a b) (hB : B ≤ a.heap.size) (hp : ∀ k, k < B → ¬ p k) : Below B a b := ⟨h.os, h.tape, h.output, h.size, fun i hi => h.block i (by omega) (hp i hi)⟩
theorem Gb.set {w : World} {x : Nat} (hx : p x) (o : Nat) (v : Value) : Gb p w (w.setCell ⟨x, o, none⟩ v) := ⟨rfl, rfl, rfl, by simp, fun i _ hn => Below.heap_setCell w ⟨x, o, none⟩ v i (fun e => hn (by have e' : i = x := e; rw [e']; exact hx))⟩
theorem Gb.after {x : Nat} (h : Gb p a b) (hx : a.heap.size ≤ x) (o : Nat) (v : Value) : Gb p a (b.setCell ⟨x, o, none⟩ v) := ⟨h.os, h.tape, h.output, by have := h.size; simpa using this, fun i hi hn => (Below.heap_setCell b ⟨x, o, none⟩ v i (fun e => by have e' : i = x := e; omega)).trans (h.block i hi hn)⟩
theorem Gb.bk {x : Nat} {t : TypeId} {cs : Array Value} (h : Gb p a b) (hk : Bk a x t cs) (hx : ¬ p x) : Bk b x t cs := (h.block x hk.lt hx).trans hk
end

theorem bk_set10 {w : World} {rb : Nat} {t : TypeId} {x y : Value} (h : Bk w rb t #[x, y]) (x' y' : Value) : Bk ((w.setCell ⟨rb, 1, none⟩ y').setCell ⟨rb, 0, none⟩ x') rb t #[x', y'] := by
  have := (h.set 1 y').set 0 x'
  simpa using this
theorem gb_set10 (w : World) (rb : Nat) (x' y' : Value) : Gb (fun g => g = rb) w ((w.setCell ⟨rb, 1, none⟩ y').setCell ⟨rb, 0, none⟩ x') :=
  (Gb.set (p := fun g => g = rb) (x := rb) rfl 1 y').trans (Gb.set (p := fun g => g = rb) (x := rb) rfl 0 x')

theorem Gb.sl {p : Nat → Prop} {w w' : World} {B size n : Nat} {A : Option Addr} {xs : List Value} (h : Gb p w w') (hs : Sl w B size A n xs) (hB : B ≤ w.heap.size) (hp : ∀ k, k < B → ¬ p k) : Sl w' B size A n xs := hs.below (h.below hB hp) (Nat.le_refl _)
end Go.Proofs.YtmdhlkkekidknaaGreatDoor

namespace Go.Proofs.YtmdhlkkekidknaaGreatDoor
open Go.RowKit

def wd1 (l : Bytes) (k : Nat) : Nat := valF 0 (l.take (min k 8))
def wd2 (l : Bytes) (k : Nat) : Nat := valF 0 ((l.drop 8).take (k - 8))
theorem valF_snoc (l : Bytes) (b : UInt8) : valF 0 (l ++ [b]) = valF 0 l * 256 + b.toNat := by simp [valF]
theorem wd1_step {l : Bytes} {k : Nat} {b : UInt8} (h : l[k]? = some b) (hk : k < 8) : wd1 l (k + 1) = wd1 l k * 256 + b.toNat ∧ wd2 l (k + 1) = wd2 l k := by
  unfold wd1 wd2
  rw [show min (k + 1) 8 = k + 1 by omega, show min k 8 = k by omega, take_snoc h, valF_snoc, show k + 1 - 8 = 0 by omega, show k - 8 = 0 by omega]
  exact ⟨rfl, rfl⟩
theorem wd2_step {l : Bytes} {k : Nat} {b : UInt8} (h : l[k]? = some b) (hk : 8 ≤ k) : wd1 l (k + 1) = wd1 l k ∧ wd2 l (k + 1) = wd2 l k * 256 + b.toNat := by
  unfold wd1 wd2
  have h' : (l.drop 8)[k - 8]? = some b := by rw [List.getElem?_drop, show 8 + (k - 8) = k by omega]; exact h
  rw [show min (k + 1) 8 = 8 by omega, show min k 8 = 8 by omega, show k + 1 - 8 = k - 8 + 1 by omega, take_snoc h', valF_snoc]
  exact ⟨rfl, rfl⟩
theorem wd1_lt {l : Bytes} {k : Nat} (hk : k < 8) : wd1 l k < 256 ^ 7 := by
  have h := valF_lt (l.take (min k 8)) 0
  have hl : (l.take (min k 8)).length ≤ 7 := by rw [List.length_take]; omega
  have := Nat.pow_le_pow_right (n := 256) (by omega) hl
  unfold wd1; omega
theorem wd2_lt {l : Bytes} {k : Nat} (hk : k < 16) : wd2 l k < 256 ^ 7 := by
  have h := valF_lt ((l.drop 8).take (k - 8)) 0
  have hl : ((l.drop 8).take (k - 8)).length ≤ 7 := by rw [List.length_take]; omega
  have := Nat.pow_le_pow_right (n := 256) (by omega) hl
  unfold wd2; omega
theorem w_end (l : Bytes) : dg l = ((wd1 l 16 : Int), (wd2 l 16 : Int)) := rfl
theorem byte_get {s : ByteArray} {k : Nat} (h : k < s.size) : (toL s)[k]? = some s[k] := by
  rw [List.getElem?_eq_getElem (by rw [← size_toL]; exact h)]; rfl

theorem or_join {x y : Nat} (hx : x < 256 ^ 7) (hy : y < 256) : bits .or .u64 ((x : Int) * 256) (y : Int) = (x : Int) * 256 + (y : Int) :=
  bits_join .u64 64 (by decide) (fun n h0 h1 => IntWalk.u64_in n (by omega)) 8 ((x : Int) * 256) (y : Int) (by omega) (by omega) (by omega) (by omega) (by omega) (by omega)

end Go.Proofs.YtmdhlkkekidknaaGreatDoor

namespace Go.Proofs.YtmdhlkkekidknaaGreatDoor
open Go.RowKit

def RetI (r : Nat × Nat × Int) (w : World) (e : Ending) (w' : World) : Prop := e = .returned (.tuple #[.int .i64 r.1, .int .i64 r.2.1, .int .i64 r.2.2]) ∧ w = w'
theorem drop_byte {s : ByteArray} {k : Nat} (h : k < s.size) : (toL s).drop k = s[k] :: (toL s).drop (k + 1) := by
  rw [List.drop_eq_getElem_cons (by rw [← size_toL]; exact h)]; rfl

set_option maxRecDepth 100000 in
set_option maxHeartbeats 2000000 in
theorem getInt_any (s : ByteArray) (w : World) : Calls Tryz.prog 199 #[.string s] w (RetI (getI (toL s)) w) := by
  have HR : Hid (∀ r, getI (toL s) = r → ∀ e w', RetI r w e w' → RetI (getI (toL s)) w e w') := fun r h e w' hh => by rw [h]; exact hh
  have H0 : Hid (getI (toL s) = gi 6 0 0 1 ((toL s).drop 0)) := rfl
  go_enter Tryz.func199, Tryz.ntmps199
  go_wp2
  go_loop [5, 6, 9] (fun n u i => ∃ k a b : Nat, k ≤ 6 ∧ i = .int .i64 k ∧ n = .int .i64 a ∧ u = .int .i64 b ∧ 1 ≤ b ∧ b ≤ 128 ^ 6 ∧ Hid (b = 128 ^ k) ∧ a < b ∧ Hid (getI (toL s) = gi (6 - k) k a b ((toL s).drop k))) (fun _ _ i => 6 - (intOf i).toNat)
  case atStart => exact ⟨0, 0, 1, by omega, rfl, rfl, rfl, by omega, by omega, rfl, by omega, H0.out⟩
  case round =>
    obtain ⟨k, a, b, hk, rfl, rfl, rfl, hb1, hb2, hb, hab, hg⟩ := hrel
    by_cases hlt : k < 6
    · have hf : Hid (6 - k = 5 - k + 1) := by show _ = _; omega
      by_cases hsz : k < s.size
      · have hsz' : ¬ (s.size : Int) ≤ (k : Int) := by omega
        have hbn : Hid (128 * b = 128 ^ (k + 1)) := by show _ = _; rw [hb.out, Nat.pow_succ, Nat.mul_comm]
        have hbp : 128 * b ≤ 128 ^ 6 := by rw [hbn.out]; exact Nat.pow_le_pow_right (by omega) (by omega)
        have hst : Hid (getI (toL s) = if s[k].toNat < 128 then (if (s[k].toNat = 0 ∧ 0 < k) ∨ 1099511627776 < a + s[k].toNat * b then (0, 0, 13) else (a + s[k].toNat * b, k + 1, 0)) else gi (5 - k) (k + 1) (a + (s[k].toNat - 128) * b) (b * 128) ((toL s).drop (k + 1))) := by
          show _ = _
          rw [hg.out, hf.out, drop_byte hsz, gi]
        have hd : s[k].toNat < 256 := s[k].toNat_lt
        generalize hdd : s[k].toNat = d at *
        have hdi : (s[k].toNat : Int) = (d : Int) := by rw [hdd]
        clear hdd
        by_cases h128 : d < 128
        · obtain ⟨p, hp⟩ : ∃ p, d * b = p := ⟨_, rfl⟩
          have hpb : p ≤ 128 * b := by rw [← hp]; exact Nat.mul_le_mul_right _ (by omega)
          have hpi : (d : Int) * (b : Int) = (p : Int) := by rw [← hp]; simp
          have h128i : ¬ (128 : Int) ≤ (d : Int) := by omega
          rw [hp, if_pos h128] at hst
          clear hp
          by_cases hmx : 1099511627776 < a + p
          · have hmxi : (1099511627776 : Int) < (a : Int) + (p : Int) := by omega
            have hfin : Hid (getI (toL s) = (0, 0, 13)) := by show _ = _; rw [hst.out, if_pos (.inr hmx)]
            clear hst hg
            by_cases hd0 : d = 0
            · have hd0i : ((d : Int) == 0) = true := by rw [beq_iff_eq]; omega
              clear hd0
              by_cases hk0 : (0 : Int) < (k : Int)
              all_goals
                go_wp2
                go_ret3
                exact HR.out _ hfin.out _ _ ⟨rfl, rfl⟩
            · have hd0i : ((d : Int) == 0) = false := by rw [beq_eq_false_iff_ne]; omega
              clear hd0
              go_wp2
              go_ret3
              exact HR.out _ hfin.out _ _ ⟨rfl, rfl⟩
          · have hmxi : ¬ (1099511627776 : Int) < (a : Int) + (p : Int) := by omega
            by_cases hd0 : d = 0
            · have hd0i : ((d : Int) == 0) = true := by rw [beq_iff_eq]; omega
              by_cases hk0 : 0 < k
              · have hk0i : (0 : Int) < (k : Int) := by omega
                have hfin : Hid (getI (toL s) = (0, 0, 13)) := by show _ = _; rw [hst.out, if_pos (.inl ⟨hd0, hk0⟩)]
                clear hst hg hd0
                go_wp2
                go_ret3
                exact HR.out _ hfin.out _ _ ⟨rfl, rfl⟩
              · have hk0i : ¬ (0 : Int) < (k : Int) := by omega
                have hfin : Hid (getI (toL s) = (a + p, k + 1, 0)) := by show _ = _; rw [hst.out, if_neg (by omega)]
                clear hst hg hd0
                go_wp2
                go_ret3
                exact HR.out _ hfin.out _ _ ⟨rfl, rfl⟩
            · have hd0i : ((d : Int) == 0) = false := by rw [beq_eq_false_iff_ne]; omega
              have hfin : Hid (getI (toL s) = (a + p, k + 1, 0)) := by show _ = _; rw [hst.out, if_neg (by omega)]
              clear hst hg hd0
              go_wp2
              go_ret3
              exact HR.out _ hfin.out _ _ ⟨rfl, rfl⟩
        · obtain ⟨p, hp⟩ : ∃ p, (d - 128) * b = p := ⟨_, rfl⟩
          have hpb : p + b ≤ 128 * b := by
            have : (d - 128 + 1) * b ≤ 128 * b := Nat.mul_le_mul_right _ (by omega)
            rw [Nat.add_mul, hp] at this; omega
          have hpi : ((d : Int) - 128) * (b : Int) = (p : Int) := by
            rw [← hp, Int.natCast_mul, Int.ofNat_sub (by omega)]; rfl
          have h128i : (128 : Int) ≤ (d : Int) := by omega
          rw [hp, if_neg h128] at hst
          clear hp
          go_wp2
          go_round
          case rel => exact ⟨k + 1, a + p, b * 128, by omega, by go_num, by go_num, by go_num, by omega, by omega, by show _ = _; rw [Nat.mul_comm]; exact hbn.out, by omega, by show _ = _; rw [hst.out, show 6 - (k + 1) = 5 - k by omega]⟩
          case measure => simp [intOf]; omega
      · have hsz' : (s.size : Int) ≤ (k : Int) := by omega
        have hfin : Hid (getI (toL s) = (0, 0, 12)) := by
          show _ = _
          rw [hg.out, hf.out, List.drop_of_length_le (by rw [← size_toL]; omega), gi]
        clear hg
        go_wp2
        go_ret3
        exact HR.out _ hfin.out _ _ ⟨rfl, rfl⟩
    · have hfin : Hid (getI (toL s) = (0, 0, 13)) := by
        show _ = _
        rw [hg.out, show 6 - k = 0 by omega, gi]
      clear hg
      go_wp2
      go_ret3
      exact HR.out _ hfin.out _ _ ⟨rfl, rfl⟩
def RetT (r : Bytes × Nat × Int) (w : World) (e : Ending) (w' : World) : Prop := e = .returned (.tuple #[.string (ofL r.1), .int .i64 r.2.1, .int .i64 r.2.2]) ∧ w = w'
theorem extract_ofL (s : ByteArray) (a n : Nat) : s.extract a (a + n) = ofL (((toL s).drop a).take n) := by
  apply ByteArray.ext
  apply Array.toList_inj.1
  show (s.extract a (a + n)).data.toList = ((toL s).drop a).take n
  rw [extract_list, Nat.add_sub_cancel_left]; rfl

set_option maxRecDepth 100000 in
set_option maxHeartbeats 2000000 in
theorem getText_any (s : ByteArray) (hs : s.size ≤ maxLen) (w : World) : Calls Tryz.prog 200 #[.string s] w (RetT (getT (toL s)) w) := by
  unfold maxLen at hs
  have HR : Hid (∀ r, getT (toL s) = r → ∀ e w', RetT r w e w' → RetT (getT (toL s)) w e w') := fun r h e w' hh => by rw [h]; exact hh
  have HD : Hid (getT (toL s) = if (getI (toL s)).2.2 ≠ 0 then ([], 0, (getI (toL s)).2.2) else if 65536 < (getI (toL s)).1 then ([], 0, 13) else if (toL s).length < (getI (toL s)).2.1 + (getI (toL s)).1 then ([], 0, 12) else (((toL s).drop (getI (toL s)).2.1).take (getI (toL s)).1, (getI (toL s)).2.1 + (getI (toL s)).1, 0)) := rfl
  rw [← size_toL] at HD
  have hle := getI_le (toL s)
  rw [← size_toL] at hle
  have hmx := getI_max (toL s)
  go_enter Tryz.func200, Tryz.ntmps200
  go_wp2_with fail
  refine (getInt_any s _).mono ?_
  generalize getI (toL s) = r at *
  obtain ⟨n, k, e⟩ := r
  rintro e' w' ⟨rfl, rfl⟩
  simp only at hle hmx HD ⊢
  by_cases he : e = 0
  · subst he
    by_cases hn : 65536 < n
    · have hni : (65536 : Int) < (n : Int) := by omega
      have hfin : Hid (getT (toL s) = ([], 0, 13)) := by show _ = _; rw [HD.out, if_neg (by simp), if_pos hn]
      clear HD
      go_wp2
      go_ret3
      exact HR.out _ hfin.out _ _ ⟨rfl, rfl⟩
    · have hni : ¬ (65536 : Int) < (n : Int) := by omega
      by_cases hl : s.size < k + n
      · have hli : (s.size : Int) - (k : Int) < (n : Int) := by omega
        have hfin : Hid (getT (toL s) = ([], 0, 12)) := by show _ = _; rw [HD.out, if_neg (by simp), if_neg hn, if_pos hl]
        clear HD
        go_wp2
        go_ret3
        exact HR.out _ hfin.out _ _ ⟨rfl, rfl⟩
      · have hli : ¬ (s.size : Int) - (k : Int) < (n : Int) := by omega
        have hfin : Hid (getT (toL s) = (((toL s).drop k).take n, k + n, 0)) := by show _ = _; rw [HD.out, if_neg (by simp), if_neg hn, if_neg hl]
        have HX := Lib.hid (extract_ofL s k n)
        clear HD
        go_wp2
        go_ret3
        exact HR.out _ hfin.out _ _ ⟨by rw [← HX.out]; rfl, rfl⟩
  · have hne : (e != 0) = true := by rw [bne_iff_ne]; exact he
    have hfin : Hid (getT (toL s) = ([], 0, e)) := by show _ = _; rw [HD.out, if_pos he]
    clear HD he
    go_wp2
    go_ret3
    exact HR.out _ hfin.out _ _ ⟨rfl, rfl⟩
end Go.Proofs.YtmdhlkkekidknaaGreatDoor

namespace Go.Proofs.YtmdhlkkekidknaaGreatDoor
open Go.RowKit

theorem Bk.two {w : World} {b : Nat} {t : TypeId} {x y : Value} (h : Bk w b t #[x, y]) : w.cell? ⟨b, 0, none⟩ = some x ∧ w.cell? ⟨b, 1, none⟩ = some y ∧ w.frozen? ⟨b, 0, none⟩ = false ∧ w.frozen? ⟨b, 1, none⟩ = false := by
  have h0 := h.cell 0; have h1 := h.cell 1
  simp at h0 h1
  exact ⟨h0, h1, h.free 0, h.free 1⟩
theorem extract_app (x r : Bytes) : (ofL (x ++ r)).extract x.length (ofL (x ++ r)).size = ofL r := by
  apply toL_inj
  show ((ofL (x ++ r)).extract x.length (ofL (x ++ r)).size).data.toList = r
  have h : (ofL (x ++ r)).data.toList = x ++ r := rfl
  rw [ByteArray.data_extract, Array.toList_extract, List.extract_eq_take_drop, h, List.drop_left, List.take_of_length_le]
  rw [size_ofL, List.length_append]; omega
def Rdr (w : World) (b : Nat) (r : Bytes) : Prop := Bk w b 180 #[.string (ofL r), .bool false]
def RdE (v : Value) (b : Nat) (r : Bytes) (w : World) (e : Ending) (w' : World) : Prop := e = .returned v ∧ Rdr w' b r ∧ Gb (fun g => g = b) w w'

set_option maxRecDepth 100000 in
set_option maxHeartbeats 1000000 in
theorem onumber_any (b k : Nat) (r : Bytes) (w : World) (hk : Rdr w b (encN k ++ r)) (hm : k ≤ 1099511627776) (hl : (encN k ++ r).length ≤ 1000000) :
    Calls Tryz.prog 156 #[.pointer (some ⟨b, 0, none⟩)] w (RdE (.int .i64 k) b r w) := by
  unfold Rdr at hk
  have HX := Lib.hid (extract_app (encN k) r)
  have hms : (encN k).length ≤ (encN k ++ r).length := by rw [List.length_append]; omega
  obtain ⟨s, hs⟩ : ∃ s, ofL (encN k ++ r) = s := ⟨_, rfl⟩
  rw [hs] at hk HX
  have hsz : s.size = (encN k ++ r).length := by rw [← hs]; rfl
  have HG := Lib.hid (getInt_any s w)
  rw [show getI (toL s) = (k, (encN k).length, 0) by rw [← hs, toL_ofL]; exact getI_enc hm r] at HG
  rw [← hsz] at hms
  obtain ⟨m, hme⟩ : ∃ m, (encN k).length = m := ⟨_, rfl⟩
  rw [hme] at HX HG hms
  have hmi : (m : Int) ≤ (s.size : Int) := by omega
  have hsm : (s.size : Int) ≤ 1000000 := by omega
  have HK := Lib.hid hk
  obtain ⟨x0, x1, f0, f1⟩ := hk.two
  clear hk hs hsz hme hms
  go_enter Tryz.func156, Tryz.ntmps156
  go_wp2_with fail
  refine HG.out.mono ?_
  rintro e w' ⟨rfl, rfl⟩
  go_wp2_with fail
  go_ret
  refine ⟨rfl, ?_, gb_set10 _ _ _ _⟩
  show Bk _ _ _ #[.string (ofL r), .bool false]
  rw [← HX.out]
  exact bk_set10 HK.out _ _
set_option maxRecDepth 100000 in
set_option maxHeartbeats 1000000 in
theorem ostring_any (b : Nat) (x : ByteArray) (r : Bytes) (w : World) (hk : Rdr w b (encT (toL x) ++ r)) (hm : x.size ≤ 65536) (hl : (encT (toL x) ++ r).length ≤ 1000000) :
    Calls Tryz.prog 157 #[.pointer (some ⟨b, 0, none⟩)] w (RdE (.string x) b r w) := by
  unfold Rdr at hk
  have HX := Lib.hid (extract_app (encT (toL x)) r)
  have hms : (encT (toL x)).length ≤ (encT (toL x) ++ r).length := by rw [List.length_append]; omega
  obtain ⟨s, hs⟩ : ∃ s, ofL (encT (toL x) ++ r) = s := ⟨_, rfl⟩
  rw [hs] at hk HX
  have hsz : s.size = (encT (toL x) ++ r).length := by rw [← hs]; rfl
  have HG := Lib.hid (getText_any s (by unfold maxLen; omega) w)
  rw [show getT (toL s) = (toL x, (encT (toL x)).length, 0) by rw [← hs, toL_ofL]; exact getT_enc (by rw [← size_toL]; exact hm) r] at HG
  rw [← hsz] at hms
  obtain ⟨m, hme⟩ : ∃ m, (encT (toL x)).length = m := ⟨_, rfl⟩
  rw [hme] at HX HG hms
  have hmi : (m : Int) ≤ (s.size : Int) := by omega
  have hsm : (s.size : Int) ≤ 1000000 := by omega
  have HK := Lib.hid hk
  obtain ⟨x0, x1, f0, f1⟩ := hk.two
  clear hk hs hsz hme hms
  unfold RetT at HG
  simp only [ofL_toL] at HG
  go_enter Tryz.func157, Tryz.ntmps157
  go_wp2_with fail
  refine HG.out.mono ?_
  rintro e w' ⟨rfl, rfl⟩
  go_wp2_with fail
  go_ret
  refine ⟨rfl, ?_, gb_set10 _ _ _ _⟩
  show Bk _ _ _ #[.string (ofL r), .bool false]
  rw [← HX.out]
  exact bk_set10 HK.out _ _
set_option maxRecDepth 100000 in
set_option maxHeartbeats 2000000 in
theorem odigest_any (b : Nat) (d : Dig) (r : Bytes) (w : World) (hk : Rdr w b (digB d ++ r)) (hd : WfD d) (hl : (digB d ++ r).length ≤ 1000000) :
    Calls Tryz.prog 160 #[.pointer (some ⟨b, 0, none⟩)] w (RdE (digV d) b r w) := by
  unfold Rdr at hk
  have HX := Lib.hid (extract_app (digB d) r)
  rw [digB_len] at HX
  have h16 : 16 ≤ (digB d ++ r).length := by rw [List.length_append, digB_len]; omega
  obtain ⟨s, hs⟩ : ∃ s, ofL (digB d ++ r) = s := ⟨_, rfl⟩
  rw [hs] at hk HX
  have hsz : s.size = (digB d ++ r).length := by rw [← hs]; rfl
  have HD : Hid (dg (toL s) = d) := by show _ = _; rw [← hs, toL_ofL]; exact dg_digB hd r
  rw [← hsz] at h16 hl
  have h16i : ¬ (s.size : Int) < 16 := by omega
  have h16j : (16 : Int) ≤ (s.size : Int) := by omega
  have HE := Lib.hid (w_end (toL s))
  have hbw := hk.lt
  obtain ⟨W0, hW0⟩ : ∃ W0, (w.alloc (.cells #[.int .u64 0, .int .u64 0] 30)).alloc (.cells #[.int .u64 0, .int .u64 0] 30) = W0 := ⟨_, rfl⟩
  have HK0 : Hid (Bk W0 w.heap.size 30 #[.int .u64 0, .int .u64 0]) := by rw [← hW0]; exact (Bk.new w _ _).alloc _
  have HK1 : Hid (Bk W0 (w.heap.size + 1) 30 #[.int .u64 0, .int .u64 0]) := by
    rw [← hW0]
    have := Bk.new (w.alloc (.cells #[.int .u64 0, .int .u64 0] 30)) 30 #[.int .u64 0, .int .u64 0]
    rwa [World.size_alloc] at this
  have HB : Hid (Below w.heap.size w W0) := by rw [← hW0]; exact ((Below.refl _ w).alloc (Nat.le_refl _) _).alloc (by simp) _
  have HR := Lib.hid hk
  obtain ⟨x0, x1, _, _⟩ := (hk.below HB.out hbw).two
  clear hk hs hsz
  go_enter Tryz.func160, Tryz.ntmps160
  go_wp2_with fail
  clear hW0
  go_loopw [15] (fun i wr => ∃ k : Nat, k ≤ 16 ∧ i = .int .i64 k ∧ Hid (Bk wr w.heap.size 30 #[.int .u64 0, .int .u64 0]) ∧ Hid (Bk wr (w.heap.size + 1) 30 #[.int .u64 (wd1 (toL s) k), .int .u64 (wd2 (toL s) k)]) ∧ Hid (Below w.heap.size w wr)) (fun i _ => 16 - (intOf i).toNat)
  case atStart => exact ⟨0, by omega, rfl, HK0.out, HK1.out, HB.out⟩
  case round =>
    obtain ⟨k, hk, rfl, J0, J1, hB⟩ := hrel
    clear x0 x1
    obtain ⟨x0, x1, xf, _⟩ := (HR.out.below hB.out hbw).two
    by_cases hlt : k < 16
    · have hsz : k < s.size := by omega
      have hd : s[k].toNat < 256 := s[k].toNat_lt
      have hki : (k : Int) < 16 := by omega
      by_cases h8 : k < 8
      · have hx := wd1_lt (l := toL s) h8
        obtain ⟨e1, e2⟩ := wd1_step (byte_get hsz) h8
        have HE1 := Lib.hid e1; have HE2 := Lib.hid e2
        have y0 := J1.out.cell 0; have y1 := J1.out.cell 1; have f0 := J1.out.free 0
        simp at y0 y1
        clear e1 e2 HX HD
        have hq : (k : Int) / 8 = 0 := by omega
        generalize wd1 (toL s) k = x at *
        generalize wd2 (toL s) k = y at *
        have hor := or_join (x := x) (y := s[k].toNat) (by omega) (by omega)
        go_wp2_with fail
        go_region
        go_wp2_with fail
        go_roundw
        case rel => exact ⟨k + 1, by omega, by go_num, J0.out.far (p := ⟨w.heap.size + 1, 0, none⟩) (by simp) _, by show Bk _ _ _ _; rw [HE1.out, HE2.out]; exact J1.out.set 0 _, (hB.out.setCell (p := ⟨w.heap.size + 1, 0, none⟩) (by simp) _).drew⟩
        case measure => simp [intOf]; omega
      · have hx := wd2_lt (l := toL s) hlt
        obtain ⟨e1, e2⟩ := wd2_step (byte_get hsz) (by omega)
        have HE1 := Lib.hid e1; have HE2 := Lib.hid e2
        have y0 := J1.out.cell 0; have y1 := J1.out.cell 1; have f1 := J1.out.free 1
        simp at y0 y1
        clear e1 e2 HX HD
        have hq : (k : Int) / 8 = 1 := by omega
        generalize wd1 (toL s) k = x at *
        generalize wd2 (toL s) k = y at *
        have hor := or_join (x := y) (y := s[k].toNat) (by omega) (by omega)
        go_wp2_with fail
        go_region
        go_wp2_with fail
        go_roundw
        case rel => exact ⟨k + 1, by omega, by go_num, J0.out.far (p := ⟨w.heap.size + 1, 1, none⟩) (by simp) _, by show Bk _ _ _ _; rw [HE1.out, HE2.out]; exact J1.out.set 1 _, (hB.out.setCell (p := ⟨w.heap.size + 1, 1, none⟩) (by simp) _).drew⟩
        case measure => simp [intOf]; omega
    · have hke : Hid (k = 16) := by show _ = _; omega
      have hki : ¬ (k : Int) < 16 := by omega
      have HX2 : Hid (d = ((wd1 (toL s) k : Int), (wd2 (toL s) k : Int))) := by show _ = _; rw [← HD.out, hke.out]; exact HE.out
      have HRr := Lib.hid (HR.out.below hB.out hbw)
      obtain ⟨y0, y1, _, _⟩ := J1.out.two
      obtain ⟨z0, z1, f0, f1⟩ := J0.out.two
      generalize wd1 (toL s) k = x at *
      generalize wd2 (toL s) k = y at *
      clear hlt HD
      have hne1 : b ≠ w.heap.size := by omega
      have hne2 : b ≠ w.heap.size + 1 := by omega
      go_wp2_with fail
      refine bodyPost_ret (res_cellD Tryz.results160 rfl ((J0.out.far (p := ⟨b, 0, none⟩) hne1.symm _).set2 _ _)) rfl ⟨by rw [HX2.out]; rfl, ?_, ?_⟩
      · show Bk _ _ _ #[.string (ofL r), .bool false]
        rw [← HX.out]
        have := (((HRr.out.set 0 (.string (s.extract 16 s.size))).far (p := ⟨w.heap.size, 0, none⟩) hne1 (.int .u64 x)).far (p := ⟨w.heap.size, 1, none⟩) hne1 (.int .u64 y))
        simpa using this
      · exact ((((Gb.of_below hB.out).trans (Gb.set (p := fun g => g = b) (x := b) rfl 0 _)).after (Nat.le_refl _) 0 _).after (Nat.le_refl _) 1 _)
end Go.Proofs.YtmdhlkkekidknaaGreatDoor

namespace Go.Proofs.YtmdhlkkekidknaaGreatDoor
open Go.RowKit

def enC (e : Ent) : List Value := [.string e.nm, .bool e.dir, .int .u64 e.dg.1, .int .u64 e.dg.2]
def entV (e : Ent) : Value := .agg #[.string e.nm, .bool e.dir, .int .u64 e.dg.1, .int .u64 e.dg.2]
def dgC (d : Dig) : List Value := [.int .u64 d.1, .int .u64 d.2]
theorem enC_len (e : Ent) : (enC e).length = 4 := rfl
theorem dgC_len (d : Dig) : (dgC d).length = 2 := rfl
theorem infoEnt : (Tryz.prog.info? 102).map (fun i => (i.zero, i.size, i.bytes)) = some (some (.agg #[.string ⟨#[]⟩, .bool false, .int .u64 0, .int .u64 0]), 4, 40) := by kernel_rfl
theorem infoDg : (Tryz.prog.info? 30).map (fun i => (i.zero, i.size, i.bytes)) = some (some (.agg #[.int .u64 0, .int .u64 0]), 2, 16) := by kernel_rfl
theorem res_cellE {fn : Func} {c : Tmp} (h : fn.results = #[.cell c 102]) {w : World} {a : Array Value} {b : Nat} {x y z u : Value} (ha : a[c]?.getD undef = .pointer (some ⟨b, 0, none⟩)) (hk : Bk w b 102 #[x, y, z, u]) :
    (results fn a).run Tryz.prog w = .ok (.agg #[x, y, z, u]) w := by
  have h0 := hk.cell 0; have h1 := hk.cell 1; have h2 := hk.cell 2; have h3 := hk.cell 3
  simp at h0 h1 h2 h3
  simp [results, h, ha, go_sem, h0, h1, h2, h3]
theorem Bk.four {w : World} {b : Nat} {t : TypeId} {x y z u : Value} (h : Bk w b t #[x, y, z, u]) : w.cell? ⟨b, 0, none⟩ = some x ∧ w.cell? ⟨b, 1, none⟩ = some y ∧ w.cell? ⟨b, 2, none⟩ = some z ∧ w.cell? ⟨b, 3, none⟩ = some u := by
  have h0 := h.cell 0; have h1 := h.cell 1; have h2 := h.cell 2; have h3 := h.cell 3
  simp at h0 h1 h2 h3
  exact ⟨h0, h1, h2, h3⟩
theorem bk_set4 {w : World} {b : Nat} {t : TypeId} {x y z u : Value} (h : Bk w b t #[x, y, z, u]) (x' y' z' u' : Value) : Bk ((((w.setCell ⟨b, 0, none⟩ x').setCell ⟨b, 1, none⟩ y').setCell ⟨b, 2, none⟩ z').setCell ⟨b, 3, none⟩ u') b t #[x', y', z', u'] := by
  have := (((h.set 0 x').set 1 y').set 2 z').set 3 u'
  simpa using this
theorem Apd.gb {w w' : World} {base size n c b : Nat} {e : TypeId} {A : Option Addr} {xs : List Value} (h : Apd w base e size A n c xs) (hg : Gb (fun g => g = b) w w') (hb : b < base) : Apd w' base e size A n c xs := by
  rcases h with h | h
  · refine .inl (h.kept (row := some b) ⟨hg.os, hg.tape, hg.output, hg.size, fun k hk hn => hg.block k hk (fun e => hn (by rw [e]))⟩ ?_)
    cases hv : (Value.slice A n c).ownBlock with
    | none => exact .inl rfl
    | some k =>
      have := (h.lt k hv).1
      exact .inr (fun e => by cases e; omega)
  · exact .inr h
set_option maxRecDepth 100000 in
set_option maxHeartbeats 2000000 in
theorem oentry_any (b : Nat) (en : Ent) (r : Bytes) (w : World) (hk : Rdr w b (encE en ++ r)) (hok : OkEnt en) (hl : (encE en ++ r).length ≤ 1000000) :
    Calls Tryz.prog 159 #[.pointer (some ⟨b, 0, none⟩)] w (RdE (entV en) b r w) := by
  have hns := nameB_size hok.nm
  have hbw := Bk.lt hk
  obtain ⟨nm, dir, dg⟩ := en
  obtain ⟨d1, d2⟩ := dg
  obtain ⟨k, hkd⟩ : ∃ k, (if dir = true then 1 else 0 : Nat) = k := ⟨_, rfl⟩
  have hk1 : k ≤ 1 := by rw [← hkd]; split <;> omega
  have HDR : Hid (dir = decide (k = 1)) := by show _ = _; rw [← hkd]; cases dir <;> rfl
  unfold encE at hk hl
  simp only [hkd, List.append_assoc] at hk hl
  have HWD : Hid (WfD (d1, d2)) := hok.dg
  simp only at hns
  have hl2 : (encN k ++ (digB (d1, d2) ++ r)).length ≤ 1000000 := by rw [List.length_append] at hl; omega
  have hl3 : (digB (d1, d2) ++ r).length ≤ 1000000 := by rw [List.length_append] at hl2; omega
  have HL2 := Lib.hid hl2; have HL3 := Lib.hid hl3
  obtain ⟨W1, hW1⟩ : ∃ W, w.alloc (.cells #[.string ⟨#[]⟩, .bool false, .int .u64 0, .int .u64 0] 102) = W := ⟨_, rfl⟩
  have HZ1 : Hid (Bk W1 w.heap.size 102 #[.string ⟨#[]⟩, .bool false, .int .u64 0, .int .u64 0]) := by rw [← hW1]; exact Bk.new w _ _
  have hb1 : Below w.heap.size w W1 := by rw [← hW1]; exact (Below.refl _ w).alloc (Nat.le_refl _) _
  have zW1 : W1.heap.size = w.heap.size + 1 := by rw [← hW1]; simp
  have HG1 : Hid (Gb (fun g => g = b) w W1) := Gb.of_below hb1
  have HS := Lib.hid (ostring_any b nm (encN k ++ (digB (d1, d2) ++ r)) W1 (Bk.below hk hb1 hbw) (by omega) hl)
  clear hk hl hl2 hl3 hok hkd hb1
  go_enter Tryz.func159, Tryz.ntmps159
  go_wp2_with fail
  refine HS.out.mono ?_
  rintro e w2 ⟨rfl, hr2, hg2⟩
  have HR2 := Lib.hid hr2
  have z2 := hg2.size
  have HG2 : Hid (Gb (fun g => g = b) w w2) := HG1.out.trans hg2
  have HZ2 := Lib.hid (hg2.bk HZ1.out (by show ¬ w.heap.size = b; omega))
  clear hr2 hg2 hW1 HS
  obtain ⟨W3, hW3⟩ : ∃ W, w2.alloc (.cells #[.string nm, .bool false, .int .u64 0, .int .u64 0] 102) = W := ⟨_, rfl⟩
  have HY3 : Hid (Bk W3 w2.heap.size 102 #[.string nm, .bool false, .int .u64 0, .int .u64 0]) := by rw [← hW3]; exact Bk.new w2 _ _
  have hb3 : Below w2.heap.size w2 W3 := by rw [← hW3]; exact (Below.refl _ w2).alloc (Nat.le_refl _) _
  have zW3 : W3.heap.size = w2.heap.size + 1 := by rw [← hW3]; simp
  have HG3 : Hid (Gb (fun g => g = b) w W3) := HG2.out.trans (Gb.of_below hb3)
  have HZ3 := Lib.hid (HZ2.out.below hb3 (by omega))
  have HN := Lib.hid (onumber_any b k (digB (d1, d2) ++ r) W3 (Bk.below HR2.out hb3 (by omega)) (by omega) HL2.out)
  have HW3 := Lib.hid hW3
  clear hb3 hW3
  go_wp2_with fail
  rw [HW3.out]
  refine HN.out.mono ?_
  rintro e w4 ⟨rfl, hr4, hg4⟩
  have z4 := hg4.size
  have HG4 : Hid (Gb (fun g => g = b) w w4) := HG3.out.trans hg4
  have HZ4 := Lib.hid (hg4.bk HZ3.out (by show ¬ w.heap.size = b; omega))
  have HY4 := Lib.hid (hg4.bk HY3.out (by show ¬ w2.heap.size = b; omega))
  have HR4 := Lib.hid hr4
  obtain ⟨x0, x1, f0, f1⟩ := Bk.two hr4
  obtain ⟨y0, y1, y2, y3⟩ := HY4.out.four
  have g1 := HY4.out.free 1
  obtain ⟨W5, hW5⟩ : ∃ W, (w4.setCell ⟨b, 1, none⟩ (.bool false)).setCell ⟨w2.heap.size, 1, none⟩ (.bool (decide (k = 1))) = W := ⟨_, rfl⟩
  have hne1 : b ≠ w2.heap.size := by omega
  have hne2 : b ≠ w.heap.size := by omega
  have HR5 : Hid (Rdr W5 b (digB (d1, d2) ++ r)) := by
    rw [← hW5]
    have := (HR4.out.set 1 (.bool false)).far (p := ⟨w2.heap.size, 1, none⟩) hne1 (.bool (decide (k = 1)))
    show Bk _ _ _ _; simpa using this
  have HY5 : Hid (Bk W5 w2.heap.size 102 #[.string nm, .bool (decide (k = 1)), .int .u64 0, .int .u64 0]) := by
    rw [← hW5]
    have := (HY4.out.far (p := ⟨b, 1, none⟩) hne1.symm (.bool false)).set 1 (.bool (decide (k = 1)))
    show Bk _ _ _ _; simpa using this
  have HZ5 : Hid (Bk W5 w.heap.size 102 #[.string ⟨#[]⟩, .bool false, .int .u64 0, .int .u64 0]) := by
    rw [← hW5]; exact (HZ4.out.far (p := ⟨b, 1, none⟩) hne2.symm _).far (p := ⟨w2.heap.size, 1, none⟩) (by show w.heap.size ≠ w2.heap.size; omega) _
  have zW5 : W5.heap.size = w4.heap.size := by rw [← hW5]; simp [World.setCell]
  have HG5 : Hid (Gb (fun g => g = b) w W5) := by
    rw [← hW5]; exact (HG4.out.trans (Gb.set (p := fun g => g = b) (x := b) rfl 1 _)).after (by omega) 1 _
  have HD := Lib.hid (odigest_any b (d1, d2) r W5 HR5.out HWD.out HL3.out)
  have hkz : decide ((1 : Int) < (k : Int)) = false := by simp; omega
  have hkd : ((k : Int) == 1) = decide (k = 1) := by
    rw [Bool.eq_iff_iff]; simp; omega
  clear hr4 hg4 HN HW3
  go_wp2_with fail
  refine HD.out.mono ?_
  rintro e w6 ⟨rfl, hr6, hg6⟩
  have HY6 := Lib.hid (hg6.bk HY5.out (by show ¬ w2.heap.size = b; omega))
  have HZ6 := Lib.hid (hg6.bk HZ5.out (by show ¬ w.heap.size = b; omega))
  have HR6 := Lib.hid hr6
  have HG6 : Hid (Gb (fun g => g = b) w w6) := HG5.out.trans hg6
  clear x0 x1 f0 f1 y0 y1 y2 y3 g1 hr6 hg6 hW5 HD
  simp only [digV]
  obtain ⟨y0, y1, y2, y3⟩ := HY6.out.four
  have g2 := HY6.out.free 2; have g3 := HY6.out.free 3
  obtain ⟨z0, z1, z2', z3⟩ := HZ6.out.four
  have e0 := HZ6.out.free 0; have e1 := HZ6.out.free 1; have e2 := HZ6.out.free 2; have e3 := HZ6.out.free 3
  have hzy : w.heap.size ≠ w2.heap.size := by omega
  go_wp2_with fail
  refine bodyPost_ret (res_cellE Tryz.results159 rfl (bk_set4 ((HZ6.out.far (p := ⟨w2.heap.size, 2, none⟩) hzy _).far (p := ⟨w2.heap.size, 3, none⟩) hzy _) _ _ _ _)) rfl ⟨by rw [← HDR.out]; rfl, ?_, ?_⟩
  · exact (((((HR6.out.far (p := ⟨w2.heap.size, 2, none⟩) hne1 _).far (p := ⟨w2.heap.size, 3, none⟩) hne1 _).far (p := ⟨w.heap.size, 0, none⟩) hne2 _).far (p := ⟨w.heap.size, 1, none⟩) hne2 _).far (p := ⟨w.heap.size, 2, none⟩) hne2 _).far (p := ⟨w.heap.size, 3, none⟩) hne2 _
  · exact (((((HG6.out.after (by omega) 2 _).after (by omega) 3 _).after (Nat.le_refl _) 0 _).after (Nat.le_refl _) 1 _).after (Nat.le_refl _) 2 _).after (Nat.le_refl _) 3 _
theorem odigestR (b : Nat) (d : Dig) (r : Bytes) (w : World) (hk : Rdr w b (digB d ++ r)) (hd : WfD d) (hl : (digB d ++ r).length ≤ 1000000) :
    Calls Tryz.prog 160 #[.pointer (some ⟨b, 0, none⟩)] w (RdE (digV d) b r w) := odigest_any b d r w hk hd hl
def RlE (t : TypeId) (sz : Nat) (xs : List Value) (n b : Nat) (r : Bytes) (w : World) (e : Ending) (w' : World) : Prop :=
  ∃ A c, e = .returned (.slice A n c) ∧ n ≤ c ∧ c ≤ maxLen ∧ Apd w' w.heap.size t sz A n c xs ∧ Rdr w' b r ∧ Gb (fun g => g = b) w w'
theorem Gb.onto {p : Nat → Prop} {a b c : World} (h : Gb p a b) (k : Below a.heap.size b c) : Gb p a c := ⟨k.os.trans h.os, k.tape.trans h.tape, k.output.trans h.output, Nat.le_trans h.size k.size, fun i hi hp => (k.block i hi).trans (h.block i hi hp)⟩
theorem halt_orl {P : Program} {ops : Array Oper} {rest : List Oper} {o : Oper} {a : Act} {w : World} {Q : Exit → Act → World → Prop} (s x : Operand) (t : TypeId) (_ : o.op = .call { callee := .builtin .append, args := #[s, x], argTypes := #[t, t] })
    (h : Hid (wpList P ops Q (o :: rest) a w)) : wpList P ops Q (o :: rest) a w := h
theorem drop_flat {α β : Type} {f : α → List β} {l : List α} {k : Nat} {x : α} (h : l[k]? = some x) : (l.drop k).flatMap f = f x ++ (l.drop (k + 1)).flatMap f := by
  have hk := List.getElem?_eq_some_iff.1 h
  have e : l.drop k = x :: l.drop (k + 1) := by rw [← hk.2, List.getElem_cons_drop]
  rw [e, List.flatMap_cons]
set_option maxRecDepth 100000 in
set_option maxHeartbeats 2000000 in
theorem olistE_any (b : Nat) (es : List Ent) (r : Bytes) (w : World) (hk : Rdr w b (encN es.length ++ (es.flatMap encE ++ r))) (hok : ∀ e ∈ es, OkEnt e) (hn : es.length ≤ 200) (hl : (encN es.length ++ (es.flatMap encE ++ r)).length ≤ 1000000) :
    Calls Tryz.prog 158 #[.pointer (some ⟨b, 0, none⟩), .int .i64 200, .func (.func 159) #[.pointer (some ⟨b, 0, none⟩)] #[]] w (RlE 102 4 (flat enC es) es.length b r w) := by
  have hbw := Bk.lt hk
  obtain ⟨n, hne⟩ : ∃ n, es.length = n := ⟨_, rfl⟩
  rw [hne] at hk hl hn ⊢
  have HLN := Lib.hid hne
  have hl2 : (es.flatMap encE ++ r).length ≤ 1000000 := by rw [List.length_append] at hl; omega
  have HL2 := Lib.hid hl2
  have HOK := Lib.hid hok
  have HN := Lib.hid (onumber_any b n (es.flatMap encE ++ r) w hk (by omega) hl)
  obtain ⟨i0, hi, hz0, hz1, hz2⟩ := info_parts infoEnt
  have Hi := Lib.hid hi; have Hz0 := Lib.hid hz0; have Hz1 := Lib.hid hz1; have Hz2 := Lib.hid hz2
  clear hk hl hl2 hok hi hz0 hz1 hz2 hne
  go_enter Tryz.func158, Tryz.ntmps158
  go_wp2_with fail
  refine HN.out.mono ?_
  rintro e w1 ⟨rfl, hr1, hg1⟩
  have HR1 := Lib.hid hr1
  obtain ⟨x0, x1, f0, f1⟩ := Bk.two hr1
  have z1 := hg1.size
  obtain ⟨W2, hW2⟩ : ∃ W, w1.setCell ⟨b, 1, none⟩ (.bool false) = W := ⟨_, rfl⟩
  have HR2 : Hid (Rdr W2 b (es.flatMap encE ++ r)) := by
    rw [← hW2]; have := HR1.out.set 1 (.bool false); show Bk _ _ _ _; simpa using this
  have HG2 : Hid (Gb (fun g => g = b) w W2) := by rw [← hW2]; exact hg1.trans (Gb.set (p := fun g => g = b) (x := b) rfl 1 _)
  have hmz : decide ((200 : Int) < (n : Int)) = false := by simp; omega
  clear hr1 hg1 HN
  go_wp2_with fail
  clear hW2 x0 x1 f0 f1
  go_loopw [8, 9] (fun l i wr => ∃ (j : Nat) (Aj : Option Addr) (cj : Nat), l = .slice Aj j cj ∧ i = .int .i64 (j : Int) ∧ j ≤ n ∧ j ≤ cj ∧ cj ≤ maxLen ∧ Hid (Apd wr w.heap.size 102 4 Aj j cj (flat enC (es.take j))) ∧ Hid (Rdr wr b ((es.drop j).flatMap encE ++ r)) ∧ Hid (Gb (fun g => g = b) w wr)) (fun _ i _ => n - (intOf i).toNat)
  case atStart => exact ⟨0, none, 0, rfl, rfl, Nat.zero_le _, Nat.le_refl _, Nat.zero_le _, .inr ⟨rfl, rfl, rfl⟩, HR2.out, HG2.out⟩
  case round =>
    obtain ⟨j, Aj, cj, rfl, rfl, hj, hjc, hcm, hA, hR, hG⟩ := hrel
    obtain ⟨x0, x1, _, _⟩ := Bk.two hR.out
    have zr := hG.out.size
    by_cases hlt : j < n
    · have hjz : (j : Int) < (n : Int) := by omega
      obtain ⟨en, hen⟩ : ∃ en, es[j]? = some en := ⟨_, List.getElem?_eq_getElem (by rw [HLN.out]; exact hlt)⟩
      have HE := Lib.hid hen
      have hR2 := hR.out
      rw [drop_flat hen, List.append_assoc] at hR2
      have hln : (encE en ++ ((es.drop (j + 1)).flatMap encE ++ r)).length ≤ 1000000 := by
        have h := HL2.out
        rw [← List.take_append_drop j es, List.flatMap_append, drop_flat hen, List.append_assoc, List.append_assoc, List.length_append] at h
        omega
      have HC := Lib.hid (oentry_any b en ((es.drop (j + 1)).flatMap encE ++ r) wr hR2 (HOK.out en (List.mem_of_getElem? hen)) hln)
      clear hen hR2 hln
      go_wp2_with (first | (go_at_call 159; refine HC.out.mono ?_; rintro e w3 ⟨rfl, hr3, hg3⟩; simp only [entV]) | (at_builtin; refine halt_orl (.tmp 36) (.tmp 39) 79 rfl ?_))
      refine unhalt ?_
      have z3 := hg3.size
      refine wpList_append_apd (base := w.heap.size) (size := 4) _ rfl (.tmp 36) (.tmp 39) 79 rfl 102 i0 _ 40 Tryz.underlying79 Hi.out Hz0.out Hz1.out Hz2.out rfl (by decide) Aj j cj (flat enC (es.take j)) rfl ?own_1 (w3.heap.size + 1) _ 1 _ (enC en) rfl ?nw_1 (by simp [enC, Value.oneCell']) ?m1_1 ?m2_1 ?m3_1 ?_
      case own_1 => exact (hA.out.gb hg3 hbw).below ((Below.refl _ w3).alloc (Nat.le_refl _) _)
      case nw_1 =>
        have := Sl.of_bk (n := 1) (size := 4) (Bk.new w3 102 #[.string en.nm, .bool en.dir, .int .u64 en.dg.1, .int .u64 en.dg.2]) rfl
        rw [World.size_alloc] at this; exact this
      case m1_1 => unfold maxLen; omega
      case m2_1 => omega
      case m3_1 => simp; omega
      intro A4 c4 w4 ha4 hb4 hn4 hm4 hok4
      have HA4 : Hid (Apd w4 w.heap.size 102 4 A4 (j + 1) c4 (flat enC (es.take (j + 1)))) := by
        show Apd _ _ _ _ _ _ _ _
        rw [take_snoc HE.out, flat_append]
        simpa [flat] using ha4
      have hbo : Below w.heap.size w3 w4 := ((Below.refl w.heap.size w3).alloc (by omega) _).trans hb4
      have HG4 : Hid (Gb (fun g => g = b) w w4) := (hG.out.trans hg3).onto hbo
      have HR4 : Hid (Rdr w4 b ((es.drop (j + 1)).flatMap encE ++ r)) := Bk.below hr3 hbo hbw
      clear ha4 hb4 hok4 hr3 hg3 hbo HC x0 x1
      go_wp2_with fail
      go_roundw
      case rel => exact ⟨j + 1, A4, c4, rfl, by go_num, hlt, hn4, hm4, HA4.out, HR4.out, HG4.out⟩
      case measure => simp [intOf]; omega
    · have hjz : ¬ (j : Int) < (n : Int) := by omega
      have hjn : n = j := by omega
      subst hjn
      have HS : Hid (Apd wr w.heap.size 102 4 Aj n cj (flat enC es)) := by
        have := hA.out; rw [List.take_of_length_le (by rw [HLN.out]; exact Nat.le_refl _)] at this; exact this
      have HR3 : Hid (Rdr wr b r) := by
        have := hR.out; rw [List.drop_of_length_le (by rw [HLN.out]; exact Nat.le_refl _)] at this; exact this
      go_wp2_with fail
      go_ret
      exact ⟨Aj, cj, rfl, hjc, hcm, HS.out, HR3.out, hG.out⟩
set_option maxRecDepth 100000 in
set_option maxHeartbeats 2000000 in
theorem olistD_any (b : Nat) (es : List Dig) (r : Bytes) (w : World) (hk : Rdr w b (encN es.length ++ (es.flatMap digB ++ r))) (hok : ∀ e ∈ es, WfD e) (hn : es.length ≤ 8) (hl : (encN es.length ++ (es.flatMap digB ++ r)).length ≤ 1000000) :
    Calls Tryz.prog 161 #[.pointer (some ⟨b, 0, none⟩), .int .i64 8, .func (.func 160) #[.pointer (some ⟨b, 0, none⟩)] #[]] w (RlE 30 2 (flat dgC es) es.length b r w) := by
  have hbw := Bk.lt hk
  obtain ⟨n, hne⟩ : ∃ n, es.length = n := ⟨_, rfl⟩
  rw [hne] at hk hl hn ⊢
  have HLN := Lib.hid hne
  have hl2 : (es.flatMap digB ++ r).length ≤ 1000000 := by rw [List.length_append] at hl; omega
  have HL2 := Lib.hid hl2
  have HOK := Lib.hid hok
  have HN := Lib.hid (onumber_any b n (es.flatMap digB ++ r) w hk (by omega) hl)
  obtain ⟨i0, hi, hz0, hz1, hz2⟩ := info_parts infoDg
  have Hi := Lib.hid hi; have Hz0 := Lib.hid hz0; have Hz1 := Lib.hid hz1; have Hz2 := Lib.hid hz2
  clear hk hl hl2 hok hi hz0 hz1 hz2 hne
  go_enter Tryz.func161, Tryz.ntmps161
  go_wp2_with fail
  refine HN.out.mono ?_
  rintro e w1 ⟨rfl, hr1, hg1⟩
  have HR1 := Lib.hid hr1
  obtain ⟨x0, x1, f0, f1⟩ := Bk.two hr1
  have z1 := hg1.size
  obtain ⟨W2, hW2⟩ : ∃ W, w1.setCell ⟨b, 1, none⟩ (.bool false) = W := ⟨_, rfl⟩
  have HR2 : Hid (Rdr W2 b (es.flatMap digB ++ r)) := by
    rw [← hW2]; have := HR1.out.set 1 (.bool false); show Bk _ _ _ _; simpa using this
  have HG2 : Hid (Gb (fun g => g = b) w W2) := by rw [← hW2]; exact hg1.trans (Gb.set (p := fun g => g = b) (x := b) rfl 1 _)
  have hmz : decide ((8 : Int) < (n : Int)) = false := by simp; omega
  clear hr1 hg1 HN
  go_wp2_with fail
  clear hW2 x0 x1 f0 f1
  go_loopw [8, 9] (fun l i wr => ∃ (j : Nat) (Aj : Option Addr) (cj : Nat), l = .slice Aj j cj ∧ i = .int .i64 (j : Int) ∧ j ≤ n ∧ j ≤ cj ∧ cj ≤ maxLen ∧ Hid (Apd wr w.heap.size 30 2 Aj j cj (flat dgC (es.take j))) ∧ Hid (Rdr wr b ((es.drop j).flatMap digB ++ r)) ∧ Hid (Gb (fun g => g = b) w wr)) (fun _ i _ => n - (intOf i).toNat)
  case atStart => exact ⟨0, none, 0, rfl, rfl, Nat.zero_le _, Nat.le_refl _, Nat.zero_le _, .inr ⟨rfl, rfl, rfl⟩, HR2.out, HG2.out⟩
  case round =>
    obtain ⟨j, Aj, cj, rfl, rfl, hj, hjc, hcm, hA, hR, hG⟩ := hrel
    obtain ⟨x0, x1, _, _⟩ := Bk.two hR.out
    have zr := hG.out.size
    by_cases hlt : j < n
    · have hjz : (j : Int) < (n : Int) := by omega
      obtain ⟨en, hen⟩ : ∃ en, es[j]? = some en := ⟨_, List.getElem?_eq_getElem (by rw [HLN.out]; exact hlt)⟩
      have HE := Lib.hid hen
      have hR2 := hR.out
      rw [drop_flat hen, List.append_assoc] at hR2
      have hln : (digB en ++ ((es.drop (j + 1)).flatMap digB ++ r)).length ≤ 1000000 := by
        have h := HL2.out
        rw [← List.take_append_drop j es, List.flatMap_append, drop_flat hen, List.append_assoc, List.append_assoc, List.length_append] at h
        omega
      have HC := Lib.hid (odigestR b en ((es.drop (j + 1)).flatMap digB ++ r) wr hR2 (HOK.out en (List.mem_of_getElem? hen)) hln)
      clear hen hR2 hln
      go_wp2_with (first | (go_at_call 160; refine HC.out.mono ?_; rintro e w3 ⟨rfl, hr3, hg3⟩; simp only [digV]) | (at_builtin; refine halt_orl (.tmp 36) (.tmp 39) 80 rfl ?_))
      refine unhalt ?_
      have z3 := hg3.size
      refine wpList_append_apd (base := w.heap.size) (size := 2) _ rfl (.tmp 36) (.tmp 39) 80 rfl 30 i0 _ 16 Tryz.underlying80 Hi.out Hz0.out Hz1.out Hz2.out rfl (by decide) Aj j cj (flat dgC (es.take j)) rfl ?own_1 (w3.heap.size + 1) _ 1 _ (dgC en) rfl ?nw_1 (by simp [dgC, Value.oneCell']) ?m1_1 ?m2_1 ?m3_1 ?_
      case own_1 => exact (hA.out.gb hg3 hbw).below ((Below.refl _ w3).alloc (Nat.le_refl _) _)
      case nw_1 =>
        have := Sl.of_bk (n := 1) (size := 2) (Bk.new w3 30 #[.int .u64 en.1, .int .u64 en.2]) rfl
        rw [World.size_alloc] at this; exact this
      case m1_1 => unfold maxLen; omega
      case m2_1 => omega
      case m3_1 => simp; omega
      intro A4 c4 w4 ha4 hb4 hn4 hm4 hok4
      have HA4 : Hid (Apd w4 w.heap.size 30 2 A4 (j + 1) c4 (flat dgC (es.take (j + 1)))) := by
        show Apd _ _ _ _ _ _ _ _
        rw [take_snoc HE.out, flat_append]
        simpa [flat] using ha4
      have hbo : Below w.heap.size w3 w4 := ((Below.refl w.heap.size w3).alloc (by omega) _).trans hb4
      have HG4 : Hid (Gb (fun g => g = b) w w4) := (hG.out.trans hg3).onto hbo
      have HR4 : Hid (Rdr w4 b ((es.drop (j + 1)).flatMap digB ++ r)) := Bk.below hr3 hbo hbw
      clear ha4 hb4 hok4 hr3 hg3 hbo HC x0 x1
      go_wp2_with fail
      go_roundw
      case rel => exact ⟨j + 1, A4, c4, rfl, by go_num, hlt, hn4, hm4, HA4.out, HR4.out, HG4.out⟩
      case measure => simp [intOf]; omega
    · have hjz : ¬ (j : Int) < (n : Int) := by omega
      have hjn : n = j := by omega
      subst hjn
      have HS : Hid (Apd wr w.heap.size 30 2 Aj n cj (flat dgC es)) := by
        have := hA.out; rw [List.take_of_length_le (by rw [HLN.out]; exact Nat.le_refl _)] at this; exact this
      have HR3 : Hid (Rdr wr b r) := by
        have := hR.out; rw [List.drop_of_length_le (by rw [HLN.out]; exact Nat.le_refl _)] at this; exact this
      go_wp2_with fail
      go_ret
      exact ⟨Aj, cj, rfl, hjc, hcm, HS.out, HR3.out, hG.out⟩
end Go.Proofs.YtmdhlkkekidknaaGreatDoor

namespace Go.Proofs.YtmdhlkkekidknaaGreatDoor
open Go.RowKit

def gPhi (S : List (Nat × (Value → World → Prop))) (vals : List Value) (i : Nat) (v : Value) (W : World) : Prop :=
  match S.lookup i with
  | some p => p v W
  | none => vPhi vals i v W
theorem lookup_mem {β : Type _} : ∀ {S : List (Nat × β)} {i : Nat} {p : β}, S.lookup i = some p → ∃ x ∈ S, x.2 = p
  | [], i, p, h => by cases h
  | (j, q) :: S, i, p, h => by
    rw [List.lookup_cons] at h
    cases e : i == j with
    | true => rw [e] at h; cases h; exact ⟨_, List.mem_cons_self, rfl⟩
    | false =>
      rw [e] at h
      obtain ⟨x, hx, e⟩ := lookup_mem h
      exact ⟨x, List.mem_cons_of_mem _ hx, e⟩
theorem gPhi_keep {S : List (Nat × (Value → World → Prop))} {vals : List Value} (hS : ∀ x ∈ S, ∀ v W W', x.2 v W → Below W.heap.size W W' → x.2 v W') (i : Nat) (v : Value) (W W' : World) (h : gPhi S vals i v W) (hb : Below W.heap.size W W') : gPhi S vals i v W' := by
  unfold gPhi at h ⊢
  cases e : S.lookup i with
  | none => rw [e] at h; exact h
  | some p =>
    rw [e] at h
    obtain ⟨x, hx, rfl⟩ := lookup_mem e
    exact hS x hx v W W' h hb
end Go.Proofs.YtmdhlkkekidknaaGreatDoor

namespace Go.Proofs.YtmdhlkkekidknaaGreatDoor

theorem ls5 {vs : List Value} (h : vs.length = 5) : ∃ v0 v1 v2 v3 v4, vs = v0 :: v1 :: v2 :: v3 :: v4 :: [] := by
  match vs, h with
  | v0 :: v1 :: v2 :: v3 :: v4 :: [], _ => exact ⟨_, _, _, _, _, rfl⟩
theorem ls7 {vs : List Value} (h : vs.length = 7) : ∃ v0 v1 v2 v3 v4 v5 v6, vs = v0 :: v1 :: v2 :: v3 :: v4 :: v5 :: v6 :: [] := by
  match vs, h with
  | v0 :: v1 :: v2 :: v3 :: v4 :: v5 :: v6 :: [], _ => exact ⟨_, _, _, _, _, _, _, rfl⟩
theorem ls10 {vs : List Value} (h : vs.length = 10) : ∃ v0 v1 v2 v3 v4 v5 v6 v7 v8 v9, vs = v0 :: v1 :: v2 :: v3 :: v4 :: v5 :: v6 :: v7 :: v8 :: v9 :: [] := by
  match vs, h with
  | v0 :: v1 :: v2 :: v3 :: v4 :: v5 :: v6 :: v7 :: v8 :: v9 :: [], _ => exact ⟨_, _, _, _, _, _, _, _, _, _, rfl⟩
theorem ls11 {vs : List Value} (h : vs.length = 11) : ∃ v0 v1 v2 v3 v4 v5 v6 v7 v8 v9 v10, vs = v0 :: v1 :: v2 :: v3 :: v4 :: v5 :: v6 :: v7 :: v8 :: v9 :: v10 :: [] := by
  match vs, h with
  | v0 :: v1 :: v2 :: v3 :: v4 :: v5 :: v6 :: v7 :: v8 :: v9 :: v10 :: [], _ => exact ⟨_, _, _, _, _, _, _, _, _, _, _, rfl⟩
theorem ls12 {vs : List Value} (h : vs.length = 12) : ∃ v0 v1 v2 v3 v4 v5 v6 v7 v8 v9 v10 v11, vs = v0 :: v1 :: v2 :: v3 :: v4 :: v5 :: v6 :: v7 :: v8 :: v9 :: v10 :: v11 :: [] := by
  match vs, h with
  | v0 :: v1 :: v2 :: v3 :: v4 :: v5 :: v6 :: v7 :: v8 :: v9 :: v10 :: v11 :: [], _ => exact ⟨_, _, _, _, _, _, _, _, _, _, _, _, rfl⟩
end Go.Proofs.YtmdhlkkekidknaaGreatDoor
