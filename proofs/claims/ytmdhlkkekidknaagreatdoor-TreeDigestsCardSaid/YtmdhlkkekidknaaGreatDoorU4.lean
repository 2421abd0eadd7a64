/-
  Lemmas: Storing lists of files as objects: what is computed; in plain Lean. What a pool holds of a stored list of files: Std. Storing brings it, a visit finds it, storing again finds it there; in plain Lean. What a visit finds is stored there: from a visit without an error to Std; in plain Lean. Reading one file of a tree; in plain Lean. Lists of files with one more, or without one; in plain Lean. Changes of files: Diff's answer, Patch's answer; in plain Lean. Reading one file of what is stored; how many objects a changed file brings; in plain Lean. Check's answer and valid files; what comes of setting, removing, and of changes; in plain Lean. The chapter's example: what is stored; in plain Lean. DERIVED: THE SHELF's CONTRACTS AT THIS DUMP, IN PLAIN WORDS (tools/lay-plain.mjs out of 'TryzSsp.lean', which tools/lay-shelf.mjs wrote): THE SAME DECLARATIONS UNDER THE SAME NAMES: 'import', 'namespace', 'open', 'def', 'theorem' AND NOTHING ELSE: no command of the shelf's: FOR A HAND-IN. Each laying: the table of numbers ('.._ren') and one theorem, a field a fact of the dump's own or the kernel's comparison; each contract: ONE APPLICATION.
-/
import Derived.Shelf.SlicesQ.IndexFunc
import Derived.Shelf.Strings.Split
import Derived.Shelf.SlIter.Stops
import Derived.Ground.SlgfProg
import Derived.Ground.GgzProg
import Derived.Ground.NamesProg
import Derived.Test.YtmdhlkkekidknaaGreatDoorProg
import Derived.Test.YtmdhlkkekidknaaGreatDoorU3

namespace Go.Proofs.YtmdhlkkekidknaaGreatDoor
open Go.RowKit

theorem slashL_dec : ∀ l : List UInt8, slashL l < l.length → l = l.take (slashL l) ++ 47 :: l.drop (slashL l + 1)
  | [], h => by simp at h
  | c :: r, h => by
    by_cases hc : c = 47
    · subst hc; simp [slashL]
    · simp only [slashL, if_neg hc] at h ⊢
      have := slashL_dec r (by simpa using h)
      simpa using this
theorem slashL_pre : ∀ l : List UInt8, ∀ c ∈ l.take (slashL l), c ≠ 47
  | [], c, h => by simp at h
  | d :: r, c, h => by
    by_cases hd : d = 47
    · subst hd; simp [slashL] at h
    · simp only [slashL, if_neg hd, List.take_succ_cons, List.mem_cons] at h
      rcases h with rfl | h
      · exact hd
      · exact slashL_pre r c h
theorem bl_ext (s : ByteArray) (a b : Nat) : bl (s.extract a b) = ((bl s).take b).drop a := by
  unfold bl; rw [extract_list, List.drop_take]
theorem bl_size (s : ByteArray) : (bl s).length = s.size := rfl
def cutP (s : ByteArray) : ByteArray × ByteArray × Bool := if slashL (bl s) < s.size then (s.extract 0 (slashL (bl s)), s.extract (slashL (bl s) + 1) s.size, true) else (s, ⟨#[]⟩, false)
def fsN (s : ByteArray) : ByteArray := (cutP s).1
def rsN (s : ByteArray) : ByteArray := (cutP s).2.1
def deN (s : ByteArray) : Bool := (cutP s).2.2
theorem cutR_eq {s a b : ByteArray} {m : Bool} (h : CutR s a b m) : a = fsN s ∧ b = rsN s ∧ m = deN s := by
  unfold fsN rsN deN cutP
  rcases h with ⟨h, rfl, rfl, rfl⟩ | ⟨h, rfl, rfl, rfl⟩
  · rw [if_pos h]; exact ⟨rfl, rfl, rfl⟩
  · rw [if_neg (by omega)]; exact ⟨rfl, rfl, rfl⟩
theorem cut_deep {s : ByteArray} (h : deN s = true) : bl s = bl (fsN s) ++ 47 :: bl (rsN s) := by
  unfold deN fsN rsN cutP at *
  split at h
  · rename_i hl
    rw [if_pos hl]
    simp only
    rw [bl_ext, bl_ext, List.take_of_length_le (i := s.size) (by rw [bl_size]; exact Nat.le_refl _), List.drop_zero]
    exact slashL_dec _ hl
  · cases h
theorem cut_flat {s : ByteArray} (h : deN s = false) : fsN s = s := by
  unfold deN fsN cutP at *
  split at h
  · cases h
  · rename_i hl; rw [if_neg hl]
theorem fsN_nosl (s : ByteArray) : NoSl (fsN s) := by
  unfold fsN cutP
  split
  · rename_i hl
    intro c hc
    simp only at hc
    rw [bl_ext, List.drop_zero] at hc
    exact slashL_pre _ c hc
  · rename_i hl
    intro c hc
    simp only at hc
    have : (bl s).take (slashL (bl s)) = bl s := List.take_of_length_le (by rw [bl_size]; omega)
    rw [← this] at hc
    exact slashL_pre _ c hc
theorem cut_of {s a b : ByteArray} (h : bl s = bl a ++ 47 :: bl b) (hn : NoSl a) : fsN s = a ∧ rsN s = b ∧ deN s = true := by
  have hd : deN s = true := by
    cases hd : deN s with
    | true => rfl
    | false =>
      have := cut_flat hd
      have hs := fsN_nosl s
      rw [this] at hs
      exact absurd rfl (hs 47 (by rw [h]; simp))
  have h2 := cut_deep hd
  rw [h] at h2
  obtain ⟨e1, e2⟩ := name_eq hn (fsN_nosl s) (.inr ⟨_, rfl⟩) (.inr ⟨_, rfl⟩) h2
  exact ⟨e1.symm, (bl_inj (List.cons.inj e2).2).symm, hd⟩
theorem cut_no {s : ByteArray} (hn : NoSl s) : fsN s = s ∧ deN s = false := by
  have hd : deN s = false := by
    cases hd : deN s with
    | false => rfl
    | true =>
      have := cut_deep hd
      exact absurd rfl (hn 47 (by rw [this]; simp))
  exact ⟨cut_flat hd, hd⟩
theorem pathB_iff (s : ByteArray) : pathB s = true ↔ s.size ≤ 100 ∧ ∀ l ∈ splitS (bl s), nameL l = true := by
  unfold pathB; rw [Bool.and_eq_true, decide_eq_true_eq, List.all_eq_true]; rfl
theorem splitS_cut (s : ByteArray) : splitS (bl s) = if deN s = true then bl (fsN s) :: splitS (bl (rsN s)) else [bl s] := by
  rw [splitS_slash]
  unfold deN fsN rsN cutP
  by_cases h : slashL (bl s) < s.size
  · rw [if_pos (by rw [bl_size]; exact h), if_pos h]
    simp only
    rw [if_pos trivial, bl_ext, bl_ext, List.take_of_length_le (i := s.size) (by rw [bl_size]; exact Nat.le_refl _), List.drop_zero]
  · rw [if_neg (by rw [bl_size]; exact h), if_neg h]
    simp
theorem path_name {s : ByteArray} (h : pathB s = true) : nameB (fsN s) = true := by
  have h2 := ((pathB_iff s).1 h).2
  rw [splitS_cut] at h2
  cases hd : deN s with
  | true => rw [hd, if_pos rfl] at h2; exact h2 _ (by simp)
  | false => rw [hd] at h2; rw [cut_flat hd]; exact h2 _ (by simp)
theorem path_rest {s : ByteArray} (h : pathB s = true) (hd : deN s = true) : pathB (rsN s) = true ∧ (rsN s).size < s.size := by
  have h1 := (pathB_iff s).1 h
  have h2 := h1.2
  rw [splitS_cut, hd, if_pos rfl] at h2
  have hl := congrArg List.length (cut_deep hd)
  simp only [List.length_append, List.length_cons] at hl
  have hz : (rsN s).size < s.size := by rw [← bl_size, ← bl_size]; omega
  exact ⟨(pathB_iff _).2 ⟨by omega, fun l hl => h2 l (by simp [hl])⟩, hz⟩
theorem path_len {s : ByteArray} (h : pathB s = true) : s.size ≤ 100 := ((pathB_iff s).1 h).1
theorem belB_iff (d p : ByteArray) : belB d p = true ↔ ∃ r, bl p = bl d ++ 47 :: r := by
  unfold belB
  simp only [Bool.and_eq_true, decide_eq_true_eq]
  constructor
  · rintro ⟨h1, h2, h3⟩
    refine ⟨(bl p).drop (d.size + 1), ?_⟩
    have hk := List.getElem?_eq_some_iff.1 h3
    have e : bl d = (bl p).take d.size := by rw [← h2, bl_ext, List.drop_zero, h2]
    rw [e, ← hk.2, ← List.drop_eq_getElem_cons hk.1, List.take_append_drop]
  · rintro ⟨r, h⟩
    have hl := congrArg List.length h
    simp only [List.length_append, List.length_cons, bl_size] at hl
    refine ⟨by omega, ?_, ?_⟩
    · apply bl_inj
      rw [bl_ext, h, List.drop_zero, List.take_append_of_le_length (by rw [bl_size]; exact Nat.le_refl _), List.take_of_length_le (by rw [bl_size]; exact Nat.le_refl _)]
    · rw [h, List.getElem?_append_right (by rw [bl_size]; exact Nat.le_refl _), bl_size]; simp

structure OkL (l : List Fl) : Prop where
  path : ∀ f ∈ l, pathB f.1 = true
  data : ∀ f ∈ l, f.2.size ≤ 60000
  few : l.length ≤ 200
  nod : (l.map Prod.fst).Nodup
  nob : ∀ f ∈ l, ∀ g ∈ l, belB f.1 g.1 = false
def inD (l : List Fl) (n : ByteArray) : List Fl := (l.filter (fun f => deN f.1 && decide (fsN f.1 = n))).map (fun f => (rsN f.1, f.2))
theorem mem_inD {l : List Fl} {n : ByteArray} {f : Fl} : f ∈ inD l n ↔ ∃ g ∈ l, deN g.1 = true ∧ fsN g.1 = n ∧ f = (rsN g.1, g.2) := by
  unfold inD
  rw [List.mem_map]
  constructor
  · rintro ⟨g, hg, rfl⟩
    rw [List.mem_filter, Bool.and_eq_true, decide_eq_true_eq] at hg
    exact ⟨g, hg.1, hg.2.1, hg.2.2, rfl⟩
  · rintro ⟨g, hg, h1, h2, rfl⟩
    exact ⟨g, by rw [List.mem_filter, Bool.and_eq_true, decide_eq_true_eq]; exact ⟨hg, h1, h2⟩, rfl⟩
theorem cut_eq {s t : ByteArray} (hs : deN s = true) (ht : deN t = true) (h1 : fsN s = fsN t) (h2 : rsN s = rsN t) : s = t := by
  apply bl_inj
  rw [cut_deep hs, cut_deep ht, h1, h2]
theorem inD_len (l : List Fl) (n : ByteArray) : (inD l n).length ≤ l.length := by
  unfold inD; rw [List.length_map]; exact List.length_filter_le _ _
theorem OkL.sub {l : List Fl} (h : OkL l) (n : ByteArray) : OkL (inD l n) where
  path f hf := by
    obtain ⟨g, hg, h1, _, rfl⟩ := mem_inD.1 hf
    exact (path_rest (h.path g hg) h1).1
  data f hf := by
    obtain ⟨g, hg, _, _, rfl⟩ := mem_inD.1 hf
    exact h.data g hg
  few := Nat.le_trans (inD_len l n) h.few
  nod := by
    unfold inD
    rw [List.map_map]
    have h1 : (l.filter (fun f => deN f.1 && decide (fsN f.1 = n))).Pairwise (fun a b => a.1 ≠ b.1) := by
      have := h.nod
      unfold List.Nodup at this
      rw [List.pairwise_map] at this
      exact this.filter _
    unfold List.Nodup
    rw [List.pairwise_map]
    refine h1.imp_of_mem ?_
    intro a b ha hb hab he
    rw [List.mem_filter, Bool.and_eq_true, decide_eq_true_eq] at ha hb
    exact hab (cut_eq ha.2.1 hb.2.1 (ha.2.2.trans hb.2.2.symm) he)
  nob f hf g hg := by
    obtain ⟨f', hf', h1, h2, rfl⟩ := mem_inD.1 hf
    obtain ⟨g', hg', h3, h4, rfl⟩ := mem_inD.1 hg
    rw [Bool.eq_false_iff]
    intro hb
    obtain ⟨r, hr⟩ := (belB_iff _ _).1 hb
    have := h.nob f' hf' g' hg'
    rw [Bool.eq_false_iff] at this
    refine this ((belB_iff _ _).2 ⟨r, ?_⟩)
    rw [cut_deep h1, cut_deep h3, h2, h4, hr]; simp
def nmsP (l : List Fl) : List ByteArray := l.foldl (fun a f => insS a (fsN f.1)) []
theorem nms_gen (l : List Fl) : ∀ a : List ByteArray, Asc a → Asc (l.foldl (fun a f => insS a (fsN f.1)) a) ∧ ∀ x, x ∈ l.foldl (fun a f => insS a (fsN f.1)) a ↔ x ∈ a ∨ ∃ f ∈ l, x = fsN f.1 := by
  induction l with
  | nil => intro a h; exact ⟨h, fun x => by simp⟩
  | cons f l ih =>
    intro a h
    rw [List.foldl_cons]
    obtain ⟨h1, h2⟩ := ih (insS a (fsN f.1)) (asc_insS _ h)
    refine ⟨h1, fun x => ?_⟩
    rw [h2, mem_insS]
    simp only [List.mem_cons]
    constructor
    · rintro ((h | h) | ⟨g, hg, h⟩)
      · exact .inl h
      · exact .inr ⟨f, .inl rfl, h⟩
      · exact .inr ⟨g, .inr hg, h⟩
    · rintro (h | ⟨g, rfl | hg, h⟩)
      · exact .inl (.inl h)
      · exact .inl (.inr h)
      · exact .inr ⟨g, hg, h⟩
theorem nms_asc (l : List Fl) : Asc (nmsP l) := (nms_gen l [] List.Pairwise.nil).1
theorem nms_mem {l : List Fl} {x : ByteArray} : x ∈ nmsP l ↔ ∃ f ∈ l, x = fsN f.1 := by
  unfold nmsP; rw [(nms_gen l [] List.Pairwise.nil).2 x]; simp
theorem insS_len (a : List ByteArray) (s : ByteArray) : (insS a s).length ≤ a.length + 1 := by
  by_cases h : a[posS a s]? = some s
  · rw [insS_has h]; omega
  · rw [insS_new h]; simp; omega
theorem nms_len (l : List Fl) : (nmsP l).length ≤ l.length := by
  have : ∀ (l : List Fl) (a : List ByteArray), (l.foldl (fun a f => insS a (fsN f.1)) a).length ≤ a.length + l.length := by
    intro l
    induction l with
    | nil => intro a; simp
    | cons f l ih => intro a; rw [List.foldl_cons]; have := ih (insS a (fsN f.1)); have := insS_len a (fsN f.1); simp only [List.length_cons]; omega
  have := this l []
  simpa [nmsP] using this
def lookF9 (l : List Fl) (n : ByteArray) : Option ByteArray := (l.find? (fun f => decide (f.1 = n))).map Prod.snd
theorem look9_some {l : List Fl} (hn : (l.map Prod.fst).Nodup) {n s : ByteArray} : lookF9 l n = some s ↔ (n, s) ∈ l := by
  unfold lookF9
  induction l with
  | nil => simp
  | cons f l ih =>
    rw [List.map_cons, List.nodup_cons] at hn
    by_cases e : f.1 = n
    · rw [List.find?_cons_of_pos (by simpa using e)]
      simp only [Option.map_some, Option.some.injEq, List.mem_cons]
      constructor
      · rintro rfl; left; rw [← e]
      · rintro (h | h)
        · rw [← h]
        · exact absurd (List.mem_map_of_mem (f := Prod.fst) h) (by rw [← e] ; exact hn.1)
    · rw [List.find?_cons_of_neg (by simpa using e), ih hn.2, List.mem_cons]
      exact ⟨.inr, fun h => h.resolve_left (fun h => e (by rw [← h]))⟩
theorem look9_none {l : List Fl} {n : ByteArray} : lookF9 l n = none ↔ ∀ f ∈ l, f.1 ≠ n := by
  unfold lookF9
  rw [Option.map_eq_none_iff, List.find?_eq_none]
  simp
def blobO (s : ByteArray) : Ob := ⟨1, s, [], zD, [], ⟨#[]⟩, 0, ⟨#[]⟩⟩
def treeO (es : List Ent) : Ob := ⟨2, ⟨#[]⟩, es, zD, [], ⟨#[]⟩, 0, ⟨#[]⟩⟩
theorem noC_zero (k : Int) (d : ByteArray) (es : List Ent) : NoC ⟨k, d, es, zD, [], ⟨#[]⟩, 0, ⟨#[]⟩⟩ := ⟨rfl, rfl, rfl, rfl, rfl⟩
theorem okO_blob {s : ByteArray} (h : s.size ≤ 60000) : OkO (blobO s) where
  f := .blob (.inl rfl) rfl (noC_zero _ _ _) (by show s.size ≤ _; omega)
  len := by
    show (encN 1 ++ encT (toL s)).length ≤ 65536
    unfold encT
    rw [size_toL] at h
    have h1 := encN_len 5 1 (by omega)
    have h2 := encN_len 5 (toL s).length (by omega)
    simp only [List.length_append]; omega
theorem encEs_len : ∀ {es : List Ent}, (∀ e ∈ es, OkEnt e) → (es.flatMap encE).length ≤ 52 * es.length
  | [], _ => by simp
  | e :: es, h => by
    have ih := encEs_len (es := es) (fun x hx => h x (by simp [hx]))
    have hn := nameB_size (h e (by simp)).nm
    rw [size_toL] at hn
    have h1 := encN_len 5 (toL e.nm).length (by omega)
    have h2 := encN_len 5 (if e.dir = true then 1 else 0) (by split <;> omega)
    rw [List.flatMap_cons, List.length_append, List.length_cons]
    have : (encE e).length ≤ 52 := by
      unfold encE encT
      simp only [List.length_append, digB_len]; omega
    omega
theorem okO_treeO {es : List Ent} (h : OkEs es) : OkO (treeO es) where
  f := .tree rfl rfl (noC_zero _ _ _) h
  len := by
    show (encN 2 ++ encB (treeO es)).length ≤ 65536
    have h1 := encN_len 5 2 (by omega)
    have h2 := encN_len 5 es.length (by have := h.few; omega)
    have h3 := encEs_len h.all
    have h4 := h.few
    have : encB (treeO es) = encN es.length ++ es.flatMap encE := by unfold encB; exact if_pos rfl
    rw [this]
    simp only [List.length_append]; omega
theorem u64_rng (x : Int) : 0 ≤ IntKind.u64.wrap x ∧ IntKind.u64.wrap x < 18446744073709551616 := by
  have e : IntKind.u64.wrap x = x % 18446744073709551616 := rfl
  rw [e]
  omega
theorem dgF_rng {g : Int → Int → Int} (hg : ∀ a b, 0 ≤ g a b ∧ g a b < 18446744073709551616) (l : Bytes) : 0 ≤ dgF g l ∧ dgF g l < 18446744073709551616 := by
  unfold dgF
  have : ∀ (l : Bytes) (z : Int), 0 ≤ z ∧ z < 18446744073709551616 → 0 ≤ l.foldl (fun h b => g h (IntKind.u64.wrap (b.toNat : Int))) z ∧ l.foldl (fun h b => g h (IntKind.u64.wrap (b.toNat : Int))) z < 18446744073709551616 := by
    intro l
    induction l with
    | nil => intro z h; exact h
    | cons c l ih => intro z _; exact ih _ (hg _ _)
  exact this l _ ⟨by decide, by decide⟩
theorem wf_ofB (l : Bytes) : WfD (ofB l) := by
  have h1 := dgF_rng (g := dg1) (fun a b => u64_rng _) l
  have h2 := dgF_rng (g := dg2) (fun a b => u64_rng _) l
  unfold ofB WfD
  split
  · exact ⟨by decide, by decide, by decide, by decide⟩
  · exact ⟨h1.1, h1.2, h2.1, h2.2⟩
theorem ofB_nz (l : Bytes) : ofB l ≠ zD := by
  unfold ofB zD
  split
  · decide
  · rename_i h
    intro e
    rw [Prod.mk.injEq] at e
    exact h e
def wt (l : List Fl) : Nat := (l.map (fun f => f.1.size + 1)).sum
def selN (l : List Fl) (n : ByteArray) : List Fl := l.filter (fun f => decide (fsN f.1 = n))
def remN (l : List Fl) (ns : List ByteArray) : List Fl := l.filter (fun f => !memB ns (fsN f.1))
theorem wt_cons (f : Fl) (l : List Fl) : wt (f :: l) = f.1.size + 1 + wt l := by simp [wt]
theorem memB_snoc (ns : List ByteArray) (n x : ByteArray) : memB (ns ++ [n]) x = (memB ns x || decide (x = n)) := by
  rw [Bool.eq_iff_iff, memB_iff, Bool.or_eq_true, memB_iff, List.mem_append, List.mem_singleton, decide_eq_true_eq]
theorem wt_split (l : List Fl) {ns : List ByteArray} {n : ByteArray} (hn : n ∉ ns) : wt (remN l ns) = wt (remN l (ns ++ [n])) + wt (selN l n) := by
  induction l with
  | nil => rfl
  | cons f l ih =>
    unfold remN selN at *
    by_cases h2 : fsN f.1 = n
    · have h1 : memB ns (fsN f.1) = false := by rw [Bool.eq_false_iff]; intro h; exact hn (by rw [← h2]; exact (memB_iff _ _).1 h)
      rw [List.filter_cons_of_pos (by simp [h1]), List.filter_cons_of_neg (by rw [memB_snoc]; simp [h2]), List.filter_cons_of_pos (by simpa using h2), wt_cons, wt_cons, ih]; omega
    · cases h1 : memB ns (fsN f.1) with
      | true => rw [List.filter_cons_of_neg (by simp [h1]), List.filter_cons_of_neg (by rw [memB_snoc]; simp [h1]), List.filter_cons_of_neg (by simpa using h2), ih]
      | false => rw [List.filter_cons_of_pos (by simp [h1]), List.filter_cons_of_pos (by rw [memB_snoc]; simp [h1, h2]), List.filter_cons_of_neg (by simpa using h2), wt_cons, wt_cons, ih]; omega
theorem wt_sub (l : List Fl) (n : ByteArray) : wt (inD l n) + (inD l n).length ≤ wt (selN l n) := by
  induction l with
  | nil => simp [inD, wt]
  | cons f l ih =>
    unfold inD selN at *
    by_cases h2 : fsN f.1 = n
    · rw [List.filter_cons_of_pos (p := fun f : Fl => decide (fsN f.1 = n)) (by simpa using h2), wt_cons]
      cases hd : deN f.1 with
      | true =>
        rw [List.filter_cons_of_pos (by simp [hd, h2]), List.map_cons, wt_cons, List.length_cons]
        have hl := congrArg List.length (cut_deep hd)
        simp only [List.length_append, List.length_cons, bl_size] at hl
        simp only
        omega
      | false =>
        rw [List.filter_cons_of_neg (by simp [hd])]
        omega
    · rw [List.filter_cons_of_neg (p := fun f : Fl => decide (fsN f.1 = n)) (by simpa using h2), List.filter_cons_of_neg (by simp [h2])]
      exact ih
theorem wt_mem {l : List Fl} {f : Fl} (h : f ∈ l) : 1 ≤ wt l := by
  induction l with
  | nil => cases h
  | cons g l ih => rw [wt_cons]; omega
theorem wt_all (l : List Fl) : wt (remN l []) = wt l := by
  unfold remN; rw [List.filter_eq_self.2 (fun f _ => by simp [memB])]
theorem wt_le {l : List Fl} {k : Nat} (h : ∀ f ∈ l, f.1.size ≤ k) : wt l ≤ (k + 1) * l.length := by
  induction l with
  | nil => simp [wt]
  | cons f l ih =>
    rw [wt_cons, List.length_cons, Nat.mul_succ]
    have := ih (fun g hg => h g (by simp [hg]))
    have := h f (by simp)
    omega
theorem putP_len {p q : List Itm} {o : Ob} (h : putP p o = some q) : q.length ≤ p.length + 1 := insP_len h
noncomputable def stoE (g : List Itm → List Fl → Option (List Itm × Dig)) (l : List Fl) : List Itm → List ByteArray → List Ent → Option (List Itm × List Ent)
  | p, [], es => some (p, es)
  | p, n :: r, es => match lookF9 l n with
    | some s => match putP p (blobO s) with
      | none => none
      | some q => stoE g l q r (es ++ [⟨n, false, dgO (blobO s)⟩])
    | none => match g p (inD l n) with
      | none => none
      | some (q, d) => stoE g l q r (es ++ [⟨n, true, d⟩])
noncomputable def sto : Nat → List Itm → List Fl → Option (List Itm × Dig)
  | 0, _, _ => none
  | k + 1, p, l => match stoE (sto k) l p (nmsP l) [] with
    | none => none
    | some (q, es) => match putP q (treeO es) with
      | none => none
      | some r => some (r, dgO (treeO es))
theorem stoE_file {g : List Itm → List Fl → Option (List Itm × Dig)} {l : List Fl} {p q : List Itm} {n s : ByteArray} {r : List ByteArray} {es : List Ent} (h : lookF9 l n = some s) (hp : putP p (blobO s) = some q) :
    stoE g l p (n :: r) es = stoE g l q r (es ++ [⟨n, false, dgO (blobO s)⟩]) := by rw [stoE, h]; simp only [hp]
theorem stoE_filex {g : List Itm → List Fl → Option (List Itm × Dig)} {l : List Fl} {p : List Itm} {n s : ByteArray} {r : List ByteArray} {es : List Ent} (h : lookF9 l n = some s) (hp : putP p (blobO s) = none) :
    stoE g l p (n :: r) es = none := by rw [stoE, h]; simp only [hp]
theorem stoE_dir {g : List Itm → List Fl → Option (List Itm × Dig)} {l : List Fl} {p q : List Itm} {d : Dig} {n : ByteArray} {r : List ByteArray} {es : List Ent} (h : lookF9 l n = none) (hp : g p (inD l n) = some (q, d)) :
    stoE g l p (n :: r) es = stoE g l q r (es ++ [⟨n, true, d⟩]) := by rw [stoE, h]; simp only [hp]
theorem stoE_dirx {g : List Itm → List Fl → Option (List Itm × Dig)} {l : List Fl} {p : List Itm} {n : ByteArray} {r : List ByteArray} {es : List Ent} (h : lookF9 l n = none) (hp : g p (inD l n) = none) :
    stoE g l p (n :: r) es = none := by rw [stoE, h]; simp only [hp]
structure StoAt (k : Nat) (l : List Fl) (p0 : List Itm) (j : Nat) (p : List Itm) (es : List Ent) : Prop where
  eq : stoE (sto k) l p0 (nmsP l) [] = stoE (sto k) l p ((nmsP l).drop j) es
  ok : PlOk p
  nm : es.map Ent.nm = (nmsP l).take j
  all : ∀ e ∈ es, OkEnt e
  sub : subP p0 p
  len : p.length + wt (remN l ((nmsP l).take j)) ≤ p0.length + wt l
theorem StoAt.start {k : Nat} {l : List Fl} {p : List Itm} (h : PlOk p) : StoAt k l p 0 p [] := ⟨rfl, h, rfl, (fun e he => by cases he), subP.refl _, by rw [List.take_zero, wt_all]; omega⟩
theorem rem_step {l : List Fl} {j : Nat} {n : ByteArray} (hn : (nmsP l)[j]? = some n) : wt (remN l ((nmsP l).take j)) = wt (remN l ((nmsP l).take (j + 1))) + wt (selN l n) := by
  rw [take_snoc hn]
  refine wt_split l ?_
  intro hm
  have hnd := (nms_asc l).nodup
  obtain ⟨i, hi, e⟩ := List.getElem_of_mem hm
  rw [List.length_take] at hi
  rw [List.getElem_take] at e
  obtain ⟨h1, h2⟩ := List.getElem?_eq_some_iff.1 hn
  exact List.pairwise_iff_getElem.1 hnd i j (by omega) h1 (by omega) (e.trans h2.symm)
theorem StoAt.drop {k : Nat} {l : List Fl} {p0 p : List Itm} {j : Nat} {es : List Ent} (h : StoAt k l p0 j p es) {n : ByteArray} (hn : (nmsP l)[j]? = some n) : stoE (sto k) l p0 (nmsP l) [] = stoE (sto k) l p (n :: (nmsP l).drop (j + 1)) es := by
  rw [h.eq, drop_at hn]
theorem nm_ok {l : List Fl} (hl : OkL l) {j : Nat} {n : ByteArray} (hn : (nmsP l)[j]? = some n) : nameB n = true := by
  obtain ⟨f, hf, rfl⟩ := nms_mem.1 (List.mem_of_getElem? hn)
  exact path_name (hl.path f hf)
theorem StoAt.file {k : Nat} {l : List Fl} {p0 p q : List Itm} {j : Nat} {es : List Ent} (h : StoAt k l p0 j p es) (hl : OkL l) {n s : ByteArray} (hn : (nmsP l)[j]? = some n) (hs : lookF9 l n = some s) (hp : putP p (blobO s) = some q) :
    StoAt k l p0 (j + 1) q (es ++ [⟨n, false, dgO (blobO s)⟩]) where
  eq := by rw [h.drop hn, stoE_file hs hp]
  ok := putP_ok h.ok (okO_blob (hl.data _ ((look9_some hl.nod).1 hs))) hp
  nm := by rw [List.map_append, h.nm, take_snoc hn]; rfl
  all e he := by
    rcases List.mem_append.1 he with he | he
    · exact h.all e he
    · rw [List.mem_singleton] at he; subst he
      exact ⟨nm_ok hl hn, wf_ofB _, ofB_nz _⟩
  sub := h.sub.trans (putP_sub h.ok hp)
  len := by
    have h1 := h.len
    rw [rem_step hn] at h1
    have h2 := putP_len hp
    have hm := (look9_some hl.nod).1 hs
    obtain ⟨f, _, e⟩ := nms_mem.1 (List.mem_of_getElem? hn)
    have h3 : 1 ≤ wt (selN l n) := wt_mem (f := (n, s)) (List.mem_filter.2 ⟨hm, by rw [decide_eq_true_eq]; show fsN n = n; rw [e]; exact (cut_no (fsN_nosl _)).1⟩)
    omega
theorem StoAt.filex {k : Nat} {l : List Fl} {p0 p : List Itm} {j : Nat} {es : List Ent} (h : StoAt k l p0 j p es) {n s : ByteArray} (hn : (nmsP l)[j]? = some n) (hs : lookF9 l n = some s) (hp : putP p (blobO s) = none) :
    sto (k + 1) p0 l = none := by rw [sto, h.drop hn, stoE_filex hs hp]
structure StoR (p q : List Itm) (d : Dig) (l : List Fl) : Prop where
  ok : PlOk q
  sub : subP p q
  wf : WfD d
  nz : d ≠ zD
  len : q.length ≤ p.length + wt l + 1
theorem StoAt.dir {k : Nat} {l : List Fl} {p0 p q : List Itm} {j : Nat} {es : List Ent} (h : StoAt k l p0 j p es) (hl : OkL l) {n : ByteArray} {d : Dig} (hn : (nmsP l)[j]? = some n) (hs : lookF9 l n = none) (hp : sto k p (inD l n) = some (q, d)) (hr : StoR p q d (inD l n)) (hne : inD l n ≠ []) :
    StoAt k l p0 (j + 1) q (es ++ [⟨n, true, d⟩]) where
  eq := by rw [h.drop hn, stoE_dir hs hp]
  ok := hr.ok
  nm := by rw [List.map_append, h.nm, take_snoc hn]; rfl
  all e he := by
    rcases List.mem_append.1 he with he | he
    · exact h.all e he
    · rw [List.mem_singleton] at he; subst he
      exact ⟨nm_ok hl hn, hr.wf, hr.nz⟩
  sub := h.sub.trans hr.sub
  len := by
    have h1 := h.len
    rw [rem_step hn] at h1
    have h2 := hr.len
    have h3 := wt_sub l n
    have h4 : 0 < (inD l n).length := List.length_pos_iff.2 hne
    omega
theorem StoAt.dirx {k : Nat} {l : List Fl} {p0 p : List Itm} {j : Nat} {es : List Ent} (h : StoAt k l p0 j p es) {n : ByteArray} (hn : (nmsP l)[j]? = some n) (hs : lookF9 l n = none) (hp : sto k p (inD l n) = none) :
    sto (k + 1) p0 l = none := by rw [sto, h.drop hn, stoE_dirx hs hp]
theorem asc_ents {es : List Ent} (h : Asc (es.map Ent.nm)) {j : Nat} {a b : Ent} (ha : es[j]? = some a) (hb : es[j + 1]? = some b) : less a.nm b.nm = true := by
  unfold Asc at h
  rw [List.pairwise_map, List.pairwise_iff_getElem] at h
  obtain ⟨h1, rfl⟩ := List.getElem?_eq_some_iff.1 ha
  obtain ⟨h2, rfl⟩ := List.getElem?_eq_some_iff.1 hb
  exact h j (j + 1) h1 h2 (by omega)
theorem StoAt.es {k : Nat} {l : List Fl} {p0 p : List Itm} {j : Nat} {es : List Ent} (h : StoAt k l p0 j p es) (hl : OkL l) : OkEs es where
  few := by
    have h1 := congrArg List.length h.nm
    rw [List.length_map, List.length_take] at h1
    have := nms_len l
    have := hl.few
    omega
  all := h.all
  asc j' a b ha hb := asc_ents (by rw [h.nm]; exact (nms_asc l).sublist (List.take_sublist _ _)) ha hb
theorem StoAt.done {k : Nat} {l : List Fl} {p0 p q : List Itm} {j : Nat} {es : List Ent} (h : StoAt k l p0 j p es) (hj : (nmsP l).length ≤ j) (hp : putP p (treeO es) = some q) : sto (k + 1) p0 l = some (q, dgO (treeO es)) := by
  rw [sto, h.eq, List.drop_of_length_le hj]
  simp only [stoE, hp]
theorem StoAt.donex {k : Nat} {l : List Fl} {p0 p : List Itm} {j : Nat} {es : List Ent} (h : StoAt k l p0 j p es) (hj : (nmsP l).length ≤ j) (hp : putP p (treeO es) = none) : sto (k + 1) p0 l = none := by
  rw [sto, h.eq, List.drop_of_length_le hj]
  simp only [stoE, hp]
theorem StoAt.res {k : Nat} {l : List Fl} {p0 p q : List Itm} {j : Nat} {es : List Ent} (h : StoAt k l p0 j p es) (hl : OkL l) (hp : putP p (treeO es) = some q) : StoR p0 q (dgO (treeO es)) l :=
  ⟨putP_ok h.ok (okO_treeO (h.es hl)) hp, h.sub.trans (putP_sub h.ok hp), wf_ofB _, ofB_nz _, by have := putP_len hp; have := h.len; omega⟩
theorem StoAt.elen {k : Nat} {l : List Fl} {p0 p : List Itm} {j : Nat} {es : List Ent} (h : StoAt k l p0 j p es) (hj : j ≤ (nmsP l).length) : es.length = j := by
  have := congrArg List.length h.nm
  rw [List.length_map, List.length_take] at this
  omega
theorem StoAt.plen {k : Nat} {l : List Fl} {p0 p : List Itm} {j : Nat} {es : List Ent} (h : StoAt k l p0 j p es) : p.length ≤ p0.length + wt l := by have := h.len; omega
theorem dir_ne {l : List Fl} {n : ByteArray} (hn : n ∈ nmsP l) (h : lookF9 l n = none) : inD l n ≠ [] := by
  obtain ⟨f, hf, rfl⟩ := nms_mem.1 hn
  intro e
  cases hd : deN f.1 with
  | true =>
    have : (rsN f.1, f.2) ∈ inD l (fsN f.1) := mem_inD.2 ⟨f, hf, hd, rfl, rfl⟩
    rw [e] at this; cases this
  | false => exact look9_none.1 h f hf (cut_flat hd).symm
end Go.Proofs.YtmdhlkkekidknaaGreatDoor

namespace Go.Proofs.YtmdhlkkekidknaaGreatDoor
open Go.RowKit

theorem nodup_of_map {α β : Type} (f : α → β) {l : List α} (h : (l.map f).Nodup) : l.Nodup := by
  unfold List.Nodup at h ⊢
  rw [List.pairwise_map] at h
  exact h.imp (fun hn e => hn (by rw [e]))
def EntS (q : List Itm) (g : Dig → List Fl → Prop) (l : List Fl) (e : Ent) : Prop :=
  (e.dir = false ∧ ∃ s, (e.nm, s) ∈ l ∧ getP q e.dg = some (blobO s)) ∨ (e.dir = true ∧ inD l e.nm ≠ [] ∧ (∀ f ∈ l, f.1 ≠ e.nm) ∧ g e.dg (inD l e.nm))
def Std (q : List Itm) : Nat → Dig → List Fl → Prop
  | 0, _, _ => False
  | k + 1, d, l => ∃ es, getP q d = some (treeO es) ∧ es.map Ent.nm = nmsP l ∧ ∀ e ∈ es, EntS q (Std q k) l e
theorem EntS.mono {q q' : List Itm} {g g' : Dig → List Fl → Prop} {l : List Fl} {e : Ent} (hq : PlOk q) (hq' : PlOk q') (hs : subP q q') (hg : ∀ d l, g d l → g' d l) (h : EntS q g l e) : EntS q' g' l e := by
  rcases h with ⟨h1, s, h2, h3⟩ | ⟨h1, h2, h3, h4⟩
  · exact .inl ⟨h1, s, h2, getP_mono hq hq' hs h3⟩
  · exact .inr ⟨h1, h2, h3, hg _ _ h4⟩
theorem Std.mono {q q' : List Itm} (hq : PlOk q) (hq' : PlOk q') (hs : subP q q') : ∀ {k : Nat} {d : Dig} {l : List Fl}, Std q k d l → Std q' k d l := by
  intro k
  induction k with
  | zero => intro d l h; exact h
  | succ k ih =>
    rintro d l ⟨es, h1, h2, h3⟩
    exact ⟨es, getP_mono hq hq' hs h1, h2, fun e he => (h3 e he).mono hq hq' hs (fun d l h => ih h)⟩
theorem nms_perm {l m : List Fl} (h : l.Perm m) : nmsP l = nmsP m :=
  asc_ext (nms_asc l) (nms_asc m) (fun x => by
    rw [nms_mem, nms_mem]
    constructor
    · rintro ⟨f, hf, e⟩; exact ⟨f, h.mem_iff.1 hf, e⟩
    · rintro ⟨f, hf, e⟩; exact ⟨f, h.mem_iff.2 hf, e⟩)
theorem inD_perm {l m : List Fl} (h : l.Perm m) (n : ByteArray) : (inD l n).Perm (inD m n) := by
  unfold inD; exact (h.filter _).map _
theorem Std.perm {q : List Itm} : ∀ {k : Nat} {d : Dig} {l m : List Fl}, l.Perm m → Std q k d l → Std q k d m := by
  intro k
  induction k with
  | zero => intro d l m _ h; exact h
  | succ k ih =>
    rintro d l m hp ⟨es, h1, h2, h3⟩
    refine ⟨es, h1, by rw [h2, nms_perm hp], fun e he => ?_⟩
    rcases h3 e he with ⟨a, s, b, c⟩ | ⟨a, b, c, f⟩
    · exact .inl ⟨a, s, hp.mem_iff.1 b, c⟩
    · refine .inr ⟨a, fun e0 => b ?_, fun f hf => c f (hp.mem_iff.2 hf), ih (inD_perm hp _) f⟩
      have := (inD_perm hp e.nm).length_eq
      rw [e0] at this
      exact List.eq_nil_of_length_eq_zero this
theorem OkL.perm {l m : List Fl} (h : OkL l) (hp : l.Perm m) : OkL m :=
  ⟨fun f hf => h.path f (hp.mem_iff.2 hf), fun f hf => h.data f (hp.mem_iff.2 hf), by rw [← hp.length_eq]; exact h.few, ((hp.map _).nodup_iff).1 h.nod, fun f hf g hg => h.nob f (hp.mem_iff.2 hf) g (hp.mem_iff.2 hg)⟩
theorem Std.fuel {q : List Itm} : ∀ {k : Nat} {k' : Nat} {d : Dig} {l : List Fl}, OkL l → Std q k d l → (∀ f ∈ l, f.1.size < k') → 1 ≤ k' → Std q k' d l := by
  intro k
  induction k with
  | zero => intro k' d l _ h; exact h.elim
  | succ k ih =>
    rintro k' d l hl ⟨es, h1, h2, h3⟩ hk h0
    obtain ⟨m, rfl⟩ : ∃ m, k' = m + 1 := ⟨k' - 1, by omega⟩
    refine ⟨es, h1, h2, fun e he => ?_⟩
    rcases h3 e he with h | ⟨a, b, c, f⟩
    · exact .inl h
    · have hsz : ∀ x ∈ inD l e.nm, x.1.size < m := fun x hx => by
        obtain ⟨g, hg, g1, _, rfl⟩ := mem_inD.1 hx
        have := (path_rest (hl.path g hg) g1).2
        have := hk g hg
        simp only; omega
      obtain ⟨x, hx⟩ := List.exists_mem_of_ne_nil _ b
      exact .inr ⟨a, b, c, ih (hl.sub _) f hsz (by have := hsz x hx; omega)⟩
theorem stoE_std {k : Nat} (ih : ∀ (p : List Itm) (l : List Fl) (q : List Itm) (d : Dig), OkL l → PlOk p → sto k p l = some (q, d) → Std q k d l ∧ PlOk q ∧ subP p q) {l : List Fl} (hl : OkL l) :
    ∀ (ns : List ByteArray) (p : List Itm) (es : List Ent) (q : List Itm) (es' : List Ent), PlOk p → (∀ n ∈ ns, n ∈ nmsP l) → stoE (sto k) l p ns es = some (q, es') → PlOk q ∧ subP p q ∧ ∃ fs, es' = es ++ fs ∧ fs.map Ent.nm = ns ∧ ∀ e ∈ fs, EntS q (Std q k) l e := by
  intro ns
  induction ns with
  | nil =>
    intro p es q es' hp _ h
    rw [stoE] at h
    cases h
    exact ⟨hp, subP.refl _, [], by simp, rfl, fun e h => by cases h⟩
  | cons n r ihr =>
    intro p es q es' hp hns h
    cases hk : lookF9 l n with
    | some s =>
      have hm := (look9_some hl.nod).1 hk
      cases hpp : putP p (blobO s) with
      | none => rw [stoE_filex hk hpp] at h; cases h
      | some p1 =>
        rw [stoE_file hk hpp] at h
        have hob := okO_blob (hl.data _ hm)
        have hp1 := putP_ok hp hob hpp
        obtain ⟨a, b, fs, c, d, e⟩ := ihr p1 _ q es' hp1 (fun m hm => hns m (by simp [hm])) h
        refine ⟨a, (putP_sub hp hpp).trans b, ⟨n, false, dgO (blobO s)⟩ :: fs, by rw [c]; simp, by rw [List.map_cons, d], fun x hx => ?_⟩
        rcases List.mem_cons.1 hx with rfl | hx
        · exact .inl ⟨rfl, s, hm, getP_mono hp1 a b (putP_get hp hob hpp)⟩
        · exact e x hx
    | none =>
      cases hpp : sto k p (inD l n) with
      | none => rw [stoE_dirx hk hpp] at h; cases h
      | some pd =>
        obtain ⟨p1, d1⟩ := pd
        rw [stoE_dir hk hpp] at h
        obtain ⟨h1, hp1, hs1⟩ := ih p _ p1 d1 (hl.sub n) hp hpp
        obtain ⟨a, b, fs, c, d, e⟩ := ihr p1 _ q es' hp1 (fun m hm => hns m (by simp [hm])) h
        refine ⟨a, hs1.trans b, ⟨n, true, d1⟩ :: fs, by rw [c]; simp, by rw [List.map_cons, d], fun x hx => ?_⟩
        rcases List.mem_cons.1 hx with rfl | hx
        · exact .inr ⟨rfl, dir_ne (hns n (by simp)) hk, fun f hf e => look9_none.1 hk f hf e, h1.mono hp1 a b⟩
        · exact e x hx
theorem ents_ok {es : List Ent} {l : List Fl} {q : List Itm} {g : Dig → List Fl → Prop} (hl : OkL l) (h2 : es.map Ent.nm = nmsP l) (h : ∀ e ∈ es, EntS q g l e) (hg : ∀ d l, g d l → WfD d ∧ d ≠ zD) (hq : PlOk q) : OkEs es where
  few := by
    have := congrArg List.length h2
    rw [List.length_map] at this
    have := nms_len l
    have := hl.few
    omega
  all e he := by
    have hn : e.nm ∈ nmsP l := by rw [← h2]; exact List.mem_map_of_mem he
    obtain ⟨f, hf, e1⟩ := nms_mem.1 hn
    have hnm : nameB e.nm = true := by rw [e1]; exact path_name (hl.path f hf)
    rcases h e he with ⟨_, s, _, c⟩ | ⟨_, _, _, c⟩
    · have := getP_dg hq c
      exact ⟨hnm, by rw [this]; exact wf_ofB _, by rw [this]; exact ofB_nz _⟩
    · exact ⟨hnm, (hg _ _ c).1, (hg _ _ c).2⟩
  asc j a b ha hb := asc_ents (by rw [h2]; exact nms_asc l) ha hb
theorem std_wf {q : List Itm} (hq : PlOk q) {k : Nat} {d : Dig} {l : List Fl} (h : Std q k d l) : WfD d ∧ d ≠ zD := by
  cases k with
  | zero => exact h.elim
  | succ k =>
    obtain ⟨es, h1, _⟩ := h
    have := getP_dg hq h1
    exact ⟨by rw [this]; exact wf_ofB _, by rw [this]; exact ofB_nz _⟩
theorem sto_std : ∀ (k : Nat) (p : List Itm) (l : List Fl) (q : List Itm) (d : Dig), OkL l → PlOk p → sto k p l = some (q, d) → Std q k d l ∧ PlOk q ∧ subP p q := by
  intro k
  induction k with
  | zero => intro p l q d _ _ h; rw [sto] at h; cases h
  | succ k ih =>
    intro p l q d hl hp h
    rw [sto] at h
    cases hE : stoE (sto k) l p (nmsP l) [] with
    | none => rw [hE] at h; cases h
    | some pe =>
      obtain ⟨p1, es⟩ := pe
      rw [hE] at h
      simp only at h
      cases hpp : putP p1 (treeO es) with
      | none => rw [hpp] at h; cases h
      | some p2 =>
        rw [hpp] at h
        cases h
        obtain ⟨a, b, fs, c, e1, e2⟩ := stoE_std ih hl (nmsP l) p [] p1 es hp (fun n hn => hn) hE
        rw [List.nil_append] at c
        subst c
        have hes := ents_ok hl e1 e2 (fun d l h => std_wf a h) a
        have hob := okO_treeO hes
        have hok := putP_ok a hob hpp
        have hsb := putP_sub a hpp
        exact ⟨⟨es, putP_get a hob hpp, e1, fun e he => (e2 e he).mono a hok hsb (fun d l h => h.mono a hok hsb)⟩, hok, b.trans hsb⟩
theorem stoE_again {q : List Itm} {k : Nat} {l : List Fl} (hl : OkL l) (hq : PlOk q) (ih : ∀ (d : Dig) (l : List Fl), OkL l → Std q k d l → sto k q l = some (q, d)) : ∀ (fs es : List Ent), (∀ e ∈ fs, EntS q (Std q k) l e) → stoE (sto k) l q (fs.map Ent.nm) es = some (q, es ++ fs) := by
  intro fs
  induction fs with
  | nil => intro es _; rw [List.map_nil, stoE, List.append_nil]
  | cons e r ihr =>
    intro es h
    obtain ⟨n, dir, dg⟩ := e
    rw [List.map_cons]
    have hr := fun es => ihr es (fun e he => h e (by simp [he]))
    rcases h _ (List.mem_cons_self ..) with ⟨a, s, b, c⟩ | ⟨a, b, c, d⟩
    · simp only at a b c
      subst a
      have hd := getP_dg hq c
      rw [stoE_file ((look9_some hl.nod).2 b) (putP_again hq (by rw [← hd]; exact c)), hr, ← hd]
      simp
    · simp only at a b c d
      subst a
      rw [stoE_dir (look9_none.2 c) (ih _ _ (hl.sub n) d), hr]
      simp
theorem std_sto {q : List Itm} (hq : PlOk q) : ∀ (k : Nat) (d : Dig) (l : List Fl), OkL l → Std q k d l → sto k q l = some (q, d) := by
  intro k
  induction k with
  | zero => intro d l _ h; exact h.elim
  | succ k ih =>
    rintro d l hl ⟨es, h1, h2, h3⟩
    have hE := stoE_again hl hq ih es [] h3
    rw [List.nil_append, h2] at hE
    have hd := getP_dg hq h1
    rw [sto, hE]
    simp only
    rw [putP_again hq (by rw [← hd]; exact h1), ← hd]
theorem vsE_good {g : Dig → ByteArray → List Fl × Int} {p : List Itm} {pre : ByteArray} : ∀ {es : List Ent}, (∀ e ∈ es, (pre ++ e.nm).size ≤ 100 ∧ ((e.dir = true ∧ (g e.dg (pre ++ e.nm ++ slB)).2 = 0) ∨ (e.dir = false ∧ ∃ o, getP p e.dg = some o ∧ o.kind = 1))) →
    (vsE g p pre es).2 = 0 ∧ ∀ f, f ∈ (vsE g p pre es).1 ↔ ∃ e ∈ es, (e.dir = true ∧ f ∈ (g e.dg (pre ++ e.nm ++ slB)).1) ∨ (e.dir = false ∧ ∃ o, getP p e.dg = some o ∧ f = (pre ++ e.nm, o.data)) := by
  intro es
  induction es with
  | nil => intro _; exact ⟨rfl, fun f => by simp [vsE]⟩
  | cons e es ih =>
    intro h
    obtain ⟨i1, i2⟩ := ih (fun e he => h e (by simp [he]))
    obtain ⟨h1, h2⟩ := h e (by simp)
    have hf : ¬ 100 < (pre ++ e.nm).size := by omega
    rcases h2 with ⟨hd, hz⟩ | ⟨hd, o, ho, hk⟩
    · rw [vsE_dir hf hd (s := (g e.dg (pre ++ e.nm ++ slB)).1) (by rw [← hz])]
      refine ⟨i1, fun f => ?_⟩
      simp only
      rw [List.mem_append, i2]
      constructor
      · rintro (h | ⟨e', he, h⟩)
        · exact ⟨e, by simp, .inl ⟨hd, h⟩⟩
        · exact ⟨e', by simp [he], h⟩
      · rintro ⟨e', he, hw⟩
        rcases List.mem_cons.1 he with rfl | he
        · rcases hw with ⟨_, hw⟩ | ⟨h0, _⟩
          · exact .inl hw
          · rw [hd] at h0; cases h0
        · exact .inr ⟨e', he, hw⟩
    · rw [vsE_file hf hd ho hk]
      refine ⟨i1, fun f => ?_⟩
      simp only
      rw [List.mem_cons, i2]
      constructor
      · rintro (h | ⟨e', he, h⟩)
        · exact ⟨e, by simp, .inr ⟨hd, o, ho, h⟩⟩
        · exact ⟨e', by simp [he], h⟩
      · rintro ⟨e', he, hw⟩
        rcases List.mem_cons.1 he with rfl | he
        · rcases hw with ⟨h0, _⟩ | ⟨_, o', ho', hw⟩
          · rw [hd] at h0; cases h0
          · rw [ho] at ho'; cases ho'; exact .inl hw
        · exact .inr ⟨e', he, hw⟩
theorem size_app (a b : ByteArray) : (a ++ b).size = a.size + b.size := by rw [← bl_size, bl_app, List.length_append, bl_size, bl_size]
theorem app_assocB (a b c : ByteArray) : a ++ b ++ c = a ++ (b ++ c) := by apply bl_inj; simp [bl_app]
theorem deep_eq {s : ByteArray} (h : deN s = true) : s = fsN s ++ slB ++ rsN s := by apply bl_inj; rw [bl_app, bl_app, bl_slB, List.append_assoc]; exact cut_deep h
theorem std_vis {q : List Itm} : ∀ (k : Nat) (d : Dig) (l : List Fl), OkL l → Std q k d l → ∀ (n : Nat) (pre : ByteArray), (∀ f ∈ l, pre.size + f.1.size ≤ 100) → 102 ≤ n + pre.size → (l = [] → pre = ⟨#[]⟩) →
    (vis q n d pre).2 = 0 ∧ ∀ f, f ∈ (vis q n d pre).1 ↔ ∃ g ∈ l, f = (pre ++ g.1, g.2) := by
  intro k
  induction k with
  | zero => intro d l _ h; exact h.elim
  | succ k ih =>
    rintro d l hl ⟨es, h1, h2, h3⟩ n pre hsz hn hne
    have hn1 : 1 ≤ n := by
      cases l with
      | nil => rw [hne rfl] at hn; have : (⟨#[]⟩ : ByteArray).size = 0 := rfl; omega
      | cons f l => have := hsz f (by simp); omega
    obtain ⟨n, rfl⟩ : ∃ m, n = m + 1 := ⟨n - 1, by omega⟩
    have hes : ¬ ((treeO es).ents = [] ∧ pre ≠ ⟨#[]⟩) := by
      rintro ⟨he, hp⟩
      have he' : es = [] := he
      subst he'
      cases l with
      | nil => exact hp (hne rfl)
      | cons f l =>
        have : fsN f.1 ∈ nmsP (f :: l) := nms_mem.2 ⟨f, by simp, rfl⟩
        rw [← h2] at this; cases this
    rw [vis_ents h1 rfl hes]
    show (vsE (vis q n) q pre es).2 = 0 ∧ ∀ f, f ∈ (vsE (vis q n) q pre es).1 ↔ ∃ g ∈ l, f = (pre ++ g.1, g.2)
    have key : ∀ e ∈ es, (pre ++ e.nm).size ≤ 100 ∧ ((e.dir = true ∧ (vis q n e.dg (pre ++ e.nm ++ slB)).2 = 0 ∧ ∀ f, f ∈ (vis q n e.dg (pre ++ e.nm ++ slB)).1 ↔ ∃ g ∈ inD l e.nm, f = (pre ++ e.nm ++ slB ++ g.1, g.2)) ∨ (e.dir = false ∧ ∃ s, (e.nm, s) ∈ l ∧ getP q e.dg = some (blobO s))) := by
      intro e he
      rcases h3 e he with ⟨a, s, b, c⟩ | ⟨a, b, c, f⟩
      · exact ⟨by rw [size_app]; exact hsz _ b, .inr ⟨a, s, b, c⟩⟩
      · have hs : ∀ x ∈ inD l e.nm, (pre ++ e.nm ++ slB).size + x.1.size ≤ 100 := fun x hx => by
          obtain ⟨g, hg, g1, g2, rfl⟩ := mem_inD.1 hx
          have h4 := hsz g hg
          have h5 := congrArg ByteArray.size (deep_eq g1)
          rw [size_app, size_app, g2] at h5
          rw [size_app, size_app]; simp only; omega
        have hnm : 1 ≤ e.nm.size := by
          obtain ⟨x, hx⟩ := List.exists_mem_of_ne_nil _ b
          obtain ⟨g, hg, _, g2, _⟩ := mem_inD.1 hx
          rw [← g2]; exact (name_len (path_name (hl.path g hg))).1
        have hs0 : slB.size = 1 := rfl
        obtain ⟨i1, i2⟩ := ih e.dg (inD l e.nm) (hl.sub _) f n (pre ++ e.nm ++ slB) hs (by rw [size_app, size_app]; omega) (fun h => absurd h b)
        refine ⟨?_, .inl ⟨a, i1, i2⟩⟩
        obtain ⟨x, hx⟩ := List.exists_mem_of_ne_nil _ b
        have := hs x hx
        rw [size_app] at this; omega
    obtain ⟨v1, v2⟩ := vsE_good (g := vis q n) (p := q) (pre := pre) (es := es) (fun e he => by
      obtain ⟨a, b⟩ := key e he
      refine ⟨a, ?_⟩
      rcases b with ⟨b1, b2, _⟩ | ⟨b1, s, _, b3⟩
      · exact .inl ⟨b1, b2⟩
      · exact .inr ⟨b1, _, b3, rfl⟩)
    refine ⟨v1, fun f => ?_⟩
    rw [v2]
    constructor
    · rintro ⟨e, he, h⟩
      obtain ⟨_, b⟩ := key e he
      rcases h with ⟨hd, hf⟩ | ⟨hd, o, ho, rfl⟩
      · rcases b with ⟨_, _, b3⟩ | ⟨b1, _⟩
        · obtain ⟨g, hg, rfl⟩ := (b3 f).1 hf
          obtain ⟨g', hg', g1, g2, rfl⟩ := mem_inD.1 hg
          refine ⟨g', hg', ?_⟩
          have := deep_eq g1
          rw [g2] at this
          simp only
          rw [Prod.mk.injEq]
          refine ⟨?_, rfl⟩
          conv => rhs; rw [this]
          simp only [app_assocB]
        · rw [hd] at b1; cases b1
      · rcases b with ⟨b1, _⟩ | ⟨_, s, b2, b3⟩
        · rw [hd] at b1; cases b1
        · rw [b3] at ho; cases ho
          exact ⟨_, b2, rfl⟩
    · rintro ⟨g, hg, rfl⟩
      have hgn : fsN g.1 ∈ es.map Ent.nm := by rw [h2]; exact nms_mem.2 ⟨g, hg, rfl⟩
      obtain ⟨e, he, hen⟩ := List.mem_map.1 hgn
      refine ⟨e, he, ?_⟩
      obtain ⟨_, b⟩ := key e he
      cases hd : deN g.1 with
      | true =>
        have hin : (rsN g.1, g.2) ∈ inD l e.nm := mem_inD.2 ⟨g, hg, hd, hen.symm, rfl⟩
        rcases b with ⟨b1, _, b3⟩ | ⟨b1, s, b2, _⟩
        · refine .inl ⟨b1, (b3 _).2 ⟨_, hin, ?_⟩⟩
          have := deep_eq hd
          rw [← hen] at this
          rw [Prod.mk.injEq]
          refine ⟨?_, rfl⟩
          conv => lhs; rw [this]
          simp only [app_assocB]
        · have h5 := hl.nob _ b2 g hg
          rw [Bool.eq_false_iff] at h5
          refine absurd ((belB_iff _ _).2 ⟨bl (rsN g.1), ?_⟩) h5
          rw [cut_deep hd, hen]
      | false =>
        have hfl := cut_flat hd
        rcases h3 e he with ⟨a, s, b2, c⟩ | ⟨_, _, c, _⟩
        · refine .inr ⟨a, _, c, ?_⟩
          have : g = (e.nm, s) := by
            have h6 : (e.nm, g.2) ∈ l := by rw [hen, hfl]; exact hg
            have h7 := (look9_some hl.nod).2 h6
            rw [(look9_some hl.nod).2 b2] at h7
            cases h7
            rw [hen, hfl]
          rw [this]; rfl
        · exact absurd (by rw [hen, hfl]) (c g hg)
theorem std_load {q : List Itm} {k : Nat} {d : Dig} {l : List Fl} (hq : PlOk q) (hl : OkL l) (h : Std q k d l) (ha : AscF l) : LdSeq q d l := by
  have e0 : (⟨#[]⟩ : ByteArray).size = 0 := rfl
  obtain ⟨h1, h2⟩ := std_vis k d l hl h 102 ⟨#[]⟩ (fun f hf => by have := path_len (hl.path f hf); omega) (by omega) (fun _ => rfl)
  have hnd := vis_nodup hq 102 d ⟨#[]⟩
  have hem : ∀ s : ByteArray, (⟨#[]⟩ : ByteArray) ++ s = s := fun s => by apply bl_inj; rw [bl_app]; rfl
  have hp : l.Perm (visW q d).1 := by
    refine (List.perm_ext_iff_of_nodup (nodup_of_map Prod.fst hl.nod) (nodup_of_map Prod.fst hnd)).2 (fun f => ?_)
    show f ∈ l ↔ f ∈ (vis q 102 d ⟨#[]⟩).1
    rw [h2]
    constructor
    · intro hf; exact ⟨f, hf, by rw [hem]⟩
    · rintro ⟨g, hg, rfl⟩; rw [hem]; exact hg
  exact ⟨by rw [← hp.length_eq]; exact hl.few, h1, hp, ha⟩
end Go.Proofs.YtmdhlkkekidknaaGreatDoor

namespace Go.Proofs.YtmdhlkkekidknaaGreatDoor
open Go.RowKit

theorem vsE_all {g : Dig → ByteArray → List Fl × Int} {p : List Itm} {pre : ByteArray} : ∀ {es : List Ent}, (vsE g p pre es).2 = 0 → ∀ e ∈ es, (pre ++ e.nm).size ≤ 100 ∧ ((e.dir = true ∧ (g e.dg (pre ++ e.nm ++ slB)).2 = 0) ∨ (e.dir = false ∧ ∃ o, getP p e.dg = some o ∧ o.kind = 1)) := by
  intro es
  induction es with
  | nil => intro _ e he; cases he
  | cons e es ih =>
    intro h x hx
    by_cases hf : 100 < (pre ++ e.nm).size
    · rw [vsE_far hf] at h; cases h
    · cases hd : e.dir with
      | true =>
        by_cases hz : (g e.dg (pre ++ e.nm ++ slB)).2 = 0
        · rw [vsE_dir hf hd (s := (g e.dg (pre ++ e.nm ++ slB)).1) (by rw [← hz])] at h
          rcases List.mem_cons.1 hx with rfl | hx
          · exact ⟨by omega, .inl ⟨hd, hz⟩⟩
          · exact ih h x hx
        · rw [vsE_sub hf hd (s := (g e.dg (pre ++ e.nm ++ slB)).1) hz rfl] at h
          exact absurd h hz
      | false =>
        cases hp : getP p e.dg with
        | none => rw [vsE_none hf hd hp] at h; cases h
        | some o =>
          by_cases hk : o.kind = 1
          · rw [vsE_file hf hd hp hk] at h
            rcases List.mem_cons.1 hx with rfl | hx
            · exact ⟨by omega, .inr ⟨hd, o, hp, hk⟩⟩
            · exact ih h x hx
          · rw [vsE_kind hf hd hp hk] at h; cases h
theorem vsE_len {g : Dig → ByteArray → List Fl × Int} {p : List Itm} {pre : ByteArray} : ∀ {es : List Ent}, (vsE g p pre es).2 = 0 → ∀ e ∈ es, e.dir = true → (g e.dg (pre ++ e.nm ++ slB)).1.length ≤ (vsE g p pre es).1.length := by
  intro es
  induction es with
  | nil => intro _ e he; cases he
  | cons e es ih =>
    intro h x hx hxd
    by_cases hf : 100 < (pre ++ e.nm).size
    · rw [vsE_far hf] at h; cases h
    · cases hd : e.dir with
      | true =>
        by_cases hz : (g e.dg (pre ++ e.nm ++ slB)).2 = 0
        · rw [vsE_dir hf hd (s := (g e.dg (pre ++ e.nm ++ slB)).1) (by rw [← hz])] at h ⊢
          simp only [List.length_append] at h ⊢
          rcases List.mem_cons.1 hx with rfl | hx
          · omega
          · have := ih h x hx hxd; omega
        · rw [vsE_sub hf hd (s := (g e.dg (pre ++ e.nm ++ slB)).1) hz rfl] at h
          exact absurd h hz
      | false =>
        cases hp : getP p e.dg with
        | none => rw [vsE_none hf hd hp] at h; cases h
        | some o =>
          by_cases hk : o.kind = 1
          · rw [vsE_file hf hd hp hk] at h ⊢
            simp only [List.length_cons] at h ⊢
            rcases List.mem_cons.1 hx with rfl | hx
            · rw [hd] at hxd; cases hxd
            · have := ih h x hx hxd; omega
          · rw [vsE_kind hf hd hp hk] at h; cases h
theorem blob_of {p : List Itm} (hp : PlOk p) {d : Dig} {o : Ob} (h : getP p d = some o) (hk : o.kind = 1) : o = blobO o.data := by
  have ho := getP_ok hp h
  cases ho.f with
  | blob k e c _ => exact c.eq (noC_zero 1 o.data []) hk rfl e
  | tree k _ _ _ => omega
  | commit k _ _ _ => omega
theorem tree_of {p : List Itm} (hp : PlOk p) {d : Dig} {o : Ob} (h : getP p d = some o) (hk : o.kind = 2) : o = treeO o.ents := by
  have ho := getP_ok hp h
  cases ho.f with
  | blob k e c _ => rcases k with k | k <;> omega
  | tree k d c _ => exact c.eq (noC_zero 2 ⟨#[]⟩ o.ents) hk d rfl
  | commit k _ _ _ => omega
theorem data_small {p : List Itm} (hp : PlOk p) (hs : ∀ i ∈ p, i.2.size ≤ 60000) {d : Dig} {s : ByteArray} (h : getP p d = some (blobO s)) : s.size ≤ 60000 := by
  have hm := hs _ ((getP_some hp).1 h).2
  simp only at hm
  rw [size_ofL] at hm
  have : (encO (blobO s)).length = (encN 1).length + ((encN (toL s).length).length + (toL s).length) := by
    show (encN 1 ++ encT (toL s)).length = _
    unfold encT
    simp only [List.length_append]
  rw [this, ← size_toL] at hm
  omega
structure OkT (l : List Fl) : Prop where
  path : ∀ f ∈ l, pathB f.1 = true
  data : ∀ f ∈ l, f.2.size ≤ 60000
  nod : (l.map Prod.fst).Nodup
  nob : ∀ f ∈ l, ∀ g ∈ l, belB f.1 g.1 = false
theorem OkT.ok {l : List Fl} (h : OkT l) (hl : l.length ≤ 200) : OkL l := ⟨h.path, h.data, hl, h.nod, h.nob⟩
theorem path_one {n : ByteArray} (h : nameB n = true) : pathB n = true := by
  rw [pathB_iff, splitS_cut, (cut_no (name_nosl h)).2]
  refine ⟨by have := (name_len h).2; omega, fun l hl => ?_⟩
  simp only [Bool.false_eq_true, if_false, List.mem_singleton] at hl
  subst hl; exact h
theorem cut_app {n r : ByteArray} (hn : NoSl n) : fsN (n ++ slB ++ r) = n ∧ rsN (n ++ slB ++ r) = r ∧ deN (n ++ slB ++ r) = true :=
  cut_of (by rw [bl_app, bl_app, bl_slB]; simp) hn
theorem path_app {n r : ByteArray} (h : nameB n = true) (hr : pathB r = true) (hs : (n ++ slB ++ r).size ≤ 100) : pathB (n ++ slB ++ r) = true := by
  obtain ⟨h1, h2, h3⟩ := cut_app (r := r) (name_nosl h)
  rw [pathB_iff, splitS_cut, h3, h1, h2]
  refine ⟨hs, fun l hl => ?_⟩
  simp only [if_true, List.mem_cons] at hl
  rcases hl with rfl | hl
  · exact h
  · exact ((pathB_iff r).1 hr).2 l hl
theorem app_injB {a b c : ByteArray} (h : a ++ b = a ++ c) : b = c := by
  have := congrArg bl h
  rw [bl_app, bl_app] at this
  exact bl_inj (List.append_cancel_left this)
theorem same_ent {es : List Ent} (hes : OkEs es) {e e' : Ent} (he : e ∈ es) (he' : e' ∈ es) (h : e.nm = e'.nm) : e = e' := by
  have hnm := asc_names hes
  clear hes
  induction es with
  | nil => cases he
  | cons x es ih =>
    have hn' := List.pairwise_cons.1 hnm
    rcases List.mem_cons.1 he with h1 | h1
    · rcases List.mem_cons.1 he' with h2 | h2
      · rw [h1, h2]
      · exact absurd (by rw [← h1]; exact h) (hn'.1 e' h2)
    · rcases List.mem_cons.1 he' with h2 | h2
      · exact absurd (by rw [← h2]; exact h.symm) (hn'.1 e h1)
      · exact ih h1 h2 hn'.2
noncomputable def contE (p : List Itm) (le : Ent → List Fl) (e : Ent) : List Fl := if e.dir = true then (le e).map (fun g => (e.nm ++ slB ++ g.1, g.2)) else match getP p e.dg with
  | some o => [(e.nm, o.data)]
  | none => []
section
variable {p : List Itm} {le : Ent → List Fl} {es : List Ent}
theorem mem_cont {e : Ent} {f : Fl} : f ∈ contE p le e ↔ (e.dir = true ∧ ∃ g ∈ le e, f = (e.nm ++ slB ++ g.1, g.2)) ∨ (e.dir = false ∧ ∃ o, getP p e.dg = some o ∧ f = (e.nm, o.data)) := by
  unfold contE
  cases hd : e.dir with
  | true =>
    simp only [if_true, List.mem_map, Bool.true_eq_false, false_and, or_false, true_and]
    constructor
    · rintro ⟨g, h1, h2⟩; exact ⟨g, h1, h2.symm⟩
    · rintro ⟨g, h1, h2⟩; exact ⟨g, h1, h2.symm⟩
  | false =>
    simp only [Bool.false_eq_true, if_false, false_and, false_or, true_and]
    cases hg : getP p e.dg with
    | none => simp
    | some o => simp
theorem cont_name {e : Ent} {f : Fl} (hn : NoSl e.nm) (h : f ∈ contE p le e) : fsN f.1 = e.nm ∧ deN f.1 = e.dir := by
  rcases mem_cont.1 h with ⟨hd, g, _, rfl⟩ | ⟨hd, o, _, rfl⟩
  · obtain ⟨h1, _, h3⟩ := cut_app (r := g.1) hn
    exact ⟨h1, h3.trans hd.symm⟩
  · obtain ⟨h1, h2⟩ := cut_no hn
    exact ⟨h1, h2.trans hd.symm⟩
theorem mem_all {f : Fl} : f ∈ es.flatMap (contE p le) ↔ ∃ e ∈ es, f ∈ contE p le e := List.mem_flatMap
variable (hes : OkEs es) (hle : ∀ e ∈ es, e.dir = true → OkT (le e) ∧ le e ≠ [] ∧ ∀ g ∈ le e, (e.nm ++ slB ++ g.1).size ≤ 100) (hfl : ∀ e ∈ es, e.dir = false → ∃ s, s.size ≤ 60000 ∧ getP p e.dg = some (blobO s))
include hes hle hfl
theorem all_nod : ((es.flatMap (contE p le)).map Prod.fst).Nodup := by
  have hnm := asc_names hes
  have hall := hes.all
  clear hes
  induction es with
  | nil => exact List.nodup_nil
  | cons e es ih =>
    rw [List.flatMap_cons, List.map_append, List.nodup_append]
    have hn' := List.pairwise_cons.1 hnm
    refine ⟨?_, ih (fun e he => hle e (by simp [he])) (fun e he => hfl e (by simp [he])) hn'.2 (fun e he => hall e (by simp [he])), ?_⟩
    · cases hd : e.dir with
      | true =>
        have h1 := (hle e (by simp) hd).1.nod
        unfold contE
        rw [if_pos hd, List.map_map]
        unfold List.Nodup at h1 ⊢
        rw [List.pairwise_map] at h1 ⊢
        exact h1.imp (fun h e => h (app_injB e))
      | false =>
        obtain ⟨s, _, h2⟩ := hfl e (by simp) hd
        unfold contE
        rw [if_neg (by rw [hd]; simp), h2]; simp
    · intro a ha b hb hab
      obtain ⟨f, hf, rfl⟩ := List.mem_map.1 ha
      obtain ⟨g, hg, rfl⟩ := List.mem_map.1 hb
      obtain ⟨e', he', hg'⟩ := mem_all.1 hg
      have h1 := (cont_name (name_nosl (hall e (by simp)).nm) hf).1
      have h2 := (cont_name (name_nosl (hall e' (by simp [he'])).nm) hg').1
      rw [hab, h2] at h1
      exact hn'.1 e' he' h1.symm
theorem all_ok : OkT (es.flatMap (contE p le)) where
  nod := all_nod hes hle hfl
  path f hf := by
    obtain ⟨e, he, h⟩ := mem_all.1 hf
    have hn := (hes.all e he).nm
    rcases mem_cont.1 h with ⟨hd, g, hg, rfl⟩ | ⟨hd, o, _, rfl⟩
    · obtain ⟨h1, _, h3⟩ := hle e he hd
      exact path_app hn (h1.path g hg) (h3 g hg)
    · exact path_one hn
  data f hf := by
    obtain ⟨e, he, h⟩ := mem_all.1 hf
    rcases mem_cont.1 h with ⟨hd, g, hg, rfl⟩ | ⟨hd, o, ho, rfl⟩
    · exact (hle e he hd).1.data g hg
    · obtain ⟨s, hs, h2⟩ := hfl e he hd
      rw [h2] at ho; cases ho; exact hs
  nob f hf g hg := by
    rw [Bool.eq_false_iff]
    intro hb
    obtain ⟨r, hr⟩ := (belB_iff _ _).1 hb
    obtain ⟨e, he, h⟩ := mem_all.1 hf
    obtain ⟨e', he', h'⟩ := mem_all.1 hg
    have hn := name_nosl (hes.all e he).nm
    have hn' := name_nosl (hes.all e' he').nm
    have hc := cont_name hn h
    have hc' := cont_name hn' h'
    rcases mem_cont.1 h with ⟨hd, x, hx, rfl⟩ | ⟨hd, o, ho, rfl⟩
    · -- a file in a directory
      simp only [bl_app, bl_slB] at hr
      have hg1 : fsN g.1 = e.nm ∧ _ := cut_of (s := g.1) (a := e.nm) (b := ub (bl x.1 ++ 47 :: r)) (by rw [hr, bl_ub]; simp) hn
      have hee : e' = e := same_ent hes he' he (hc'.1.symm.trans hg1.1)
      subst hee
      rcases mem_cont.1 h' with ⟨_, y, hy, rfl⟩ | ⟨hd', _⟩
      · have := (hle e' he hd).1.nob x hx y hy
        rw [Bool.eq_false_iff] at this
        refine this ((belB_iff _ _).2 ⟨r, ?_⟩)
        simp only [bl_app, bl_slB, List.append_assoc] at hr
        exact List.append_cancel_left (List.append_cancel_left hr)
      · rw [hd] at hd'; cases hd'
    · -- a file
      have hg1 : fsN g.1 = e.nm ∧ _ ∧ deN g.1 = true := cut_of (s := g.1) (a := e.nm) (b := ub r) (by rw [hr, bl_ub]) hn
      have hee : e' = e := same_ent hes he' he (hc'.1.symm.trans hg1.1)
      subst hee
      have := hc'.2
      rw [hg1.2.2, hd] at this; cases this
theorem all_inD {e : Ent} (he : e ∈ es) (hd : e.dir = true) : (le e).Perm (inD (es.flatMap (contE p le)) e.nm) := by
  have hok := all_ok hes hle hfl
  have hn := name_nosl (hes.all e he).nm
  have hnd : ((inD (es.flatMap (contE p le)) e.nm).map Prod.fst).Nodup := by
    unfold inD
    rw [List.map_map]
    have h1 : ((es.flatMap (contE p le)).filter (fun f => deN f.1 && decide (fsN f.1 = e.nm))).Pairwise (fun a b => a.1 ≠ b.1) := by
      have := hok.nod
      unfold List.Nodup at this
      rw [List.pairwise_map] at this
      exact this.filter _
    unfold List.Nodup
    rw [List.pairwise_map]
    refine h1.imp_of_mem ?_
    intro a b ha hb hab he
    rw [List.mem_filter, Bool.and_eq_true, decide_eq_true_eq] at ha hb
    exact hab (cut_eq ha.2.1 hb.2.1 (ha.2.2.trans hb.2.2.symm) he)
  refine (List.perm_ext_iff_of_nodup (nodup_of_map Prod.fst (hle e he hd).1.nod) (nodup_of_map Prod.fst hnd)).2 (fun f => ?_)
  rw [mem_inD]
  constructor
  · intro hf
    obtain ⟨h1, h2, h3⟩ := cut_app (r := f.1) hn
    exact ⟨(e.nm ++ slB ++ f.1, f.2), mem_all.2 ⟨e, he, mem_cont.2 (.inl ⟨hd, f, hf, rfl⟩)⟩, h3, h1, by rw [h2]⟩
  · rintro ⟨g, hg, h1, h2, rfl⟩
    obtain ⟨e', he', h⟩ := mem_all.1 hg
    have hc := cont_name (name_nosl (hes.all e' he').nm) h
    have hee : e' = e := same_ent hes he' he (hc.1.symm.trans h2)
    subst hee
    rcases mem_cont.1 h with ⟨_, y, hy, rfl⟩ | ⟨hd', _⟩
    · obtain ⟨_, h5, _⟩ := cut_app (r := y.1) hn
      rw [h5]; exact hy
    · rw [hd] at hd'; cases hd'
theorem all_names : es.map Ent.nm = nmsP (es.flatMap (contE p le)) := by
  have ha : Asc (es.map Ent.nm) := by
    unfold Asc
    rw [List.pairwise_map, List.pairwise_iff_getElem]
    intro i j hi hj hij
    have key : ∀ k, i + k + 1 < es.length → ∀ b, es[i + k + 1]? = some b → less es[i].nm b.nm = true := by
      intro k
      induction k with
      | zero => intro hk b hb; exact hes.asc i _ _ (List.getElem?_eq_getElem hi) hb
      | succ k ih =>
        intro hk b hb
        have h1 := ih (by omega) _ (List.getElem?_eq_getElem (by omega))
        exact lessB_trans h1 (hes.asc (i + k + 1) _ _ (List.getElem?_eq_getElem (by omega)) (by rw [show i + k + 1 + 1 = i + (k + 1) + 1 by omega]; exact hb))
    exact key (j - i - 1) (by omega) _ (by rw [show i + (j - i - 1) + 1 = j by omega]; exact List.getElem?_eq_getElem hj)
  refine asc_ext ha (nms_asc _) (fun x => ?_)
  rw [nms_mem, List.mem_map]
  constructor
  · rintro ⟨e, he, rfl⟩
    have hn := name_nosl (hes.all e he).nm
    cases hd : e.dir with
    | true =>
      obtain ⟨g, hg⟩ := List.exists_mem_of_ne_nil _ (hle e he hd).2.1
      have hm := mem_cont (p := p) (le := le).2 (.inl ⟨hd, g, hg, rfl⟩)
      exact ⟨_, mem_all.2 ⟨e, he, hm⟩, (cont_name hn hm).1.symm⟩
    | false =>
      obtain ⟨s, _, h2⟩ := hfl e he hd
      have hm := mem_cont (p := p) (le := le).2 (.inr ⟨hd, _, h2, rfl⟩)
      exact ⟨_, mem_all.2 ⟨e, he, hm⟩, (cont_name hn hm).1.symm⟩
  · rintro ⟨f, hf, rfl⟩
    obtain ⟨e, he, h⟩ := mem_all.1 hf
    exact ⟨e, he, (cont_name (name_nosl (hes.all e he).nm) h).1.symm⟩
end
theorem vis_std {p : List Itm} (hp : PlOk p) (hs : ∀ i ∈ p, i.2.size ≤ 60000) : ∀ (n : Nat) (d : Dig) (pre : ByteArray), (vis p n d pre).2 = 0 → (vis p n d pre).1.length ≤ 200 →
    ∃ l, OkL l ∧ Std p n d l ∧ (∀ f ∈ l, (pre ++ f.1).size ≤ 100) ∧ (pre ≠ ⟨#[]⟩ → l ≠ []) ∧ ∀ f, f ∈ (vis p n d pre).1 ↔ ∃ g ∈ l, f = (pre ++ g.1, g.2) := by
  intro n
  induction n with
  | zero => intro d pre h; rw [vis] at h; cases h
  | succ n ih =>
    intro d pre h hlen
    cases hg : getP p d with
    | none => rw [vis_none hg] at h; cases h
    | some o =>
      by_cases hk2 : o.kind ≠ 2
      · rw [vis_kind hg hk2] at h; cases h
      have hk : o.kind = 2 := Decidable.not_not.1 hk2
      by_cases he : o.ents = [] ∧ pre ≠ ⟨#[]⟩
      · rw [vis_empty hg hk he.1 he.2] at h; cases h
      obtain ⟨es, hes0⟩ : ∃ es, o.ents = es := ⟨_, rfl⟩
      have hto := tree_of hp hg hk
      rw [hes0] at hto
      have hes : OkEs es := by rw [← hes0]; exact okO_tree (getP_ok hp hg) hk
      rw [vis_ents hg hk he, hes0] at h hlen ⊢
      rw [hes0] at he
      have hall := vsE_all h
      have hsub : ∀ e ∈ es, e.dir = true → ∃ l, OkL l ∧ Std p n e.dg l ∧ (∀ f ∈ l, (pre ++ e.nm ++ slB ++ f.1).size ≤ 100) ∧ (pre ++ e.nm ++ slB ≠ ⟨#[]⟩ → l ≠ []) ∧ ∀ f, f ∈ (vis p n e.dg (pre ++ e.nm ++ slB)).1 ↔ ∃ g ∈ l, f = (pre ++ e.nm ++ slB ++ g.1, g.2) := fun e he hd => by
        obtain ⟨_, h2⟩ := hall e he
        rcases h2 with ⟨_, h2⟩ | ⟨h2, _⟩
        · exact ih _ _ h2 (Nat.le_trans (vsE_len h e he hd) hlen)
        · rw [hd] at h2; cases h2
      obtain ⟨le, hle⟩ : ∃ le : Ent → List Fl, ∀ e ∈ es, e.dir = true → OkL (le e) ∧ Std p n e.dg (le e) ∧ (∀ f ∈ le e, (pre ++ e.nm ++ slB ++ f.1).size ≤ 100) ∧ (pre ++ e.nm ++ slB ≠ ⟨#[]⟩ → le e ≠ []) ∧ ∀ f, f ∈ (vis p n e.dg (pre ++ e.nm ++ slB)).1 ↔ ∃ g ∈ le e, f = (pre ++ e.nm ++ slB ++ g.1, g.2) := by
        refine ⟨fun e => Classical.epsilon (fun l => OkL l ∧ Std p n e.dg l ∧ (∀ f ∈ l, (pre ++ e.nm ++ slB ++ f.1).size ≤ 100) ∧ (pre ++ e.nm ++ slB ≠ ⟨#[]⟩ → l ≠ []) ∧ ∀ f, f ∈ (vis p n e.dg (pre ++ e.nm ++ slB)).1 ↔ ∃ g ∈ l, f = (pre ++ e.nm ++ slB ++ g.1, g.2)), fun e he hd => ?_⟩
        exact Classical.epsilon_spec (hsub e he hd)
      have hnz : ∀ e : Ent, pre ++ e.nm ++ slB ≠ ⟨#[]⟩ := fun e h0 => by
        have := congrArg ByteArray.size h0
        rw [size_app] at this
        have e1 : slB.size = 1 := rfl
        have e2 : (⟨#[]⟩ : ByteArray).size = 0 := rfl
        omega
      have hle2 : ∀ e ∈ es, e.dir = true → OkT (le e) ∧ le e ≠ [] ∧ ∀ g ∈ le e, (e.nm ++ slB ++ g.1).size ≤ 100 := fun e he hd => by
        obtain ⟨h1, _, h3, h4, _⟩ := hle e he hd
        refine ⟨⟨h1.path, h1.data, h1.nod, h1.nob⟩, h4 (hnz e), fun g hg => ?_⟩
        have := h3 g hg
        rw [app_assocB, app_assocB, size_app] at this
        rw [app_assocB]; omega
      have hfl : ∀ e ∈ es, e.dir = false → ∃ s, s.size ≤ 60000 ∧ getP p e.dg = some (blobO s) := fun e he hd => by
        obtain ⟨_, h2⟩ := hall e he
        rcases h2 with ⟨h2, _⟩ | ⟨_, o', ho', hk'⟩
        · rw [hd] at h2; cases h2
        · have hb := blob_of hp ho' hk'
          rw [hb] at ho'
          exact ⟨_, data_small hp hs ho', ho'⟩
      have hok := all_ok (p := p) hes hle2 hfl
      have hin := fun e he hd => all_inD (p := p) hes hle2 hfl (e := e) he hd
      have hnms := all_names (p := p) hes hle2 hfl
      obtain ⟨v1, v2⟩ := vsE_good (g := vis p n) (p := p) (pre := pre) hall
      have hmem : ∀ f, f ∈ (vsE (vis p n) p pre es).1 ↔ ∃ g ∈ es.flatMap (contE p le), f = (pre ++ g.1, g.2) := fun f => by
        rw [v2]
        constructor
        · rintro ⟨e, he, h⟩
          rcases h with ⟨hd, hf⟩ | ⟨hd, o', ho', rfl⟩
          · obtain ⟨g, hg, rfl⟩ := ((hle e he hd).2.2.2.2 f).1 hf
            exact ⟨(e.nm ++ slB ++ g.1, g.2), mem_all.2 ⟨e, he, mem_cont.2 (.inl ⟨hd, g, hg, rfl⟩)⟩, by simp only [app_assocB]⟩
          · exact ⟨(e.nm, o'.data), mem_all.2 ⟨e, he, mem_cont.2 (.inr ⟨hd, o', ho', rfl⟩)⟩, rfl⟩
        · rintro ⟨g, hg, rfl⟩
          obtain ⟨e, he, h⟩ := mem_all.1 hg
          rcases mem_cont.1 h with ⟨hd, x, hx, rfl⟩ | ⟨hd, o', ho', rfl⟩
          · exact ⟨e, he, .inl ⟨hd, ((hle e he hd).2.2.2.2 _).2 ⟨x, hx, by simp only [app_assocB]⟩⟩⟩
          · exact ⟨e, he, .inr ⟨hd, o', ho', rfl⟩⟩
      have hnod := vis_nodup hp (n + 1) d pre
      rw [vis_ents hg hk (by rw [hes0]; exact he), hes0] at hnod
      have hpm : ((es.flatMap (contE p le)).map (fun g => (pre ++ g.1, g.2))).Perm (vsE (vis p n) p pre es).1 := by
        refine (List.perm_ext_iff_of_nodup ?_ (nodup_of_map Prod.fst hnod)).2 (fun f => ?_)
        · have h1 := nodup_of_map Prod.fst hok.nod
          unfold List.Nodup at h1 ⊢
          rw [List.pairwise_map]
          refine h1.imp ?_
          intro a b hab h0
          rw [Prod.mk.injEq] at h0
          exact hab (Prod.ext (app_injB h0.1) h0.2)
        · rw [hmem, List.mem_map]
          constructor
          · rintro ⟨g, h1, h2⟩; exact ⟨g, h1, h2.symm⟩
          · rintro ⟨g, h1, h2⟩; exact ⟨g, h1, h2.symm⟩
      have hfew : (es.flatMap (contE p le)).length ≤ 200 := by
        have := hpm.length_eq
        rw [List.length_map] at this
        omega
      refine ⟨es.flatMap (contE p le), hok.ok hfew, ⟨es, by rw [hg, hto], hnms, fun e he => ?_⟩, fun f hf => ?_, fun h0 h1 => ?_, hmem⟩
      · cases hd : e.dir with
        | true =>
          refine .inr ⟨hd, fun h0 => ?_, fun f hf h0 => ?_, (hle e he hd).2.1.perm (hin e he hd)⟩
          · have := (hin e he hd).length_eq
            rw [h0] at this
            exact (hle2 e he hd).2.1 (List.eq_nil_of_length_eq_zero this)
          · obtain ⟨e', he', h⟩ := mem_all.1 hf
            have hn := name_nosl (hes.all e he).nm
            have hc := cont_name (name_nosl (hes.all e' he').nm) h
            rw [h0, (cut_no hn).1, (cut_no hn).2] at hc
            have hee : e' = e := same_ent hes he' he hc.1.symm
            rw [hee, hd] at hc; cases hc.2
        | false =>
          obtain ⟨s, _, h2⟩ := hfl e he hd
          exact .inl ⟨hd, s, mem_all.2 ⟨e, he, mem_cont.2 (.inr ⟨hd, _, h2, rfl⟩)⟩, h2⟩
      · obtain ⟨e, he, h⟩ := mem_all.1 hf
        rcases mem_cont.1 h with ⟨hd, x, hx, rfl⟩ | ⟨hd, o', ho', rfl⟩
        · have := (hle e he hd).2.2.1 x hx
          simp only [app_assocB] at this ⊢
          exact this
        · exact (hall e he).1
      · cases es with
        | nil => exact he ⟨rfl, h0⟩
        | cons e es =>
          have : e.nm ∈ (e :: es).map Ent.nm := by simp
          rw [hnms, nms_mem] at this
          obtain ⟨f, hf, _⟩ := this
          rw [h1] at hf; cases hf
theorem load_std {p : List Itm} (hp : PlOk p) (hs : ∀ i ∈ p, i.2.size ≤ 60000) {d : Dig} {fs : List Fl} (h : LdSeq p d fs) : OkL fs ∧ Std p 102 d fs := by
  obtain ⟨l, h1, h2, _, _, h5⟩ := vis_std hp hs 102 d ⟨#[]⟩ h.ok h.few
  have hem : ∀ s : ByteArray, (⟨#[]⟩ : ByteArray) ++ s = s := fun s => by apply bl_inj; rw [bl_app]; rfl
  have hnd := vis_nodup hp 102 d ⟨#[]⟩
  have hpm : l.Perm fs := by
    refine List.Perm.trans ?_ h.perm.symm
    refine (List.perm_ext_iff_of_nodup (nodup_of_map Prod.fst h1.nod) (nodup_of_map Prod.fst hnd)).2 (fun f => ?_)
    show f ∈ l ↔ f ∈ (vis p 102 d ⟨#[]⟩).1
    rw [h5]
    constructor
    · intro hf; exact ⟨f, hf, by rw [hem]⟩
    · rintro ⟨g, hg, rfl⟩; rw [hem]; exact hg
  exact ⟨h1.perm hpm, h2.perm hpm⟩
end Go.Proofs.YtmdhlkkekidknaaGreatDoor

namespace Go.Proofs.YtmdhlkkekidknaaGreatDoor
open Go.RowKit

def entN (es : List Ent) (n : ByteArray) : Option Ent := es.find? (fun e => decide (e.nm = n))
noncomputable def datP (p : List Itm) (d : Dig) : ByteArray × Int := match getP p d with
  | none => (⟨#[]⟩, 8)
  | some o => if o.kind = 1 then (o.data, 0) else (⟨#[]⟩, 9)
noncomputable def getF (p : List Itm) : Nat → Dig → ByteArray → ByteArray × Int
  | 0, _, _ => (⟨#[]⟩, 8)
  | k + 1, d, s => match getP p d with
    | none => (⟨#[]⟩, 8)
    | some o => if o.kind = 2 then (match entN o.ents (fsN s) with
      | none => (⟨#[]⟩, 8)
      | some e => if e.dir = deN s then (if deN s = true then getF p k e.dg (rsN s) else datP p e.dg) else (⟨#[]⟩, 9)) else (⟨#[]⟩, 9)
section
variable {p : List Itm} {k : Nat} {d : Dig} {s : ByteArray}
theorem datP_none (h : getP p d = none) : datP p d = (⟨#[]⟩, 8) := by unfold datP; rw [h]
theorem datP_kind {o : Ob} (h : getP p d = some o) (hk : o.kind ≠ 1) : datP p d = (⟨#[]⟩, 9) := by unfold datP; rw [h]; simp only [if_neg hk]
theorem datP_some {o : Ob} (h : getP p d = some o) (hk : o.kind = 1) : datP p d = (o.data, 0) := by unfold datP; rw [h]; simp only [if_pos hk]
theorem getF_none (h : getP p d = none) : getF p (k + 1) d s = (⟨#[]⟩, 8) := by rw [getF, h]
theorem getF_kind {o : Ob} (h : getP p d = some o) (hk : o.kind ≠ 2) : getF p (k + 1) d s = (⟨#[]⟩, 9) := by rw [getF, h]; simp only [if_neg hk]
theorem getF_ent {o : Ob} (h : getP p d = some o) (hk : o.kind = 2) (he : entN o.ents (fsN s) = none) : getF p (k + 1) d s = (⟨#[]⟩, 8) := by rw [getF, h]; simp only [if_pos hk, he]
theorem getF_dir {o : Ob} {e : Ent} (h : getP p d = some o) (hk : o.kind = 2) (he : entN o.ents (fsN s) = some e) (hd : e.dir ≠ deN s) : getF p (k + 1) d s = (⟨#[]⟩, 9) := by rw [getF, h]; simp only [if_pos hk, he, if_neg hd]
theorem getF_sub {o : Ob} {e : Ent} (h : getP p d = some o) (hk : o.kind = 2) (he : entN o.ents (fsN s) = some e) (hd : e.dir = true) (hs : deN s = true) : getF p (k + 1) d s = getF p k e.dg (rsN s) := by
  rw [getF, h]; simp only [if_pos hk, he, hd, hs, if_true]
theorem getF_file {o : Ob} {e : Ent} (h : getP p d = some o) (hk : o.kind = 2) (he : entN o.ents (fsN s) = some e) (hd : e.dir = false) (hs : deN s = false) : getF p (k + 1) d s = datP p e.dg := by
  rw [getF, h]; simp only [if_pos hk, he, hd, hs, if_true, Bool.false_eq_true, if_false]
end
theorem entN_at {es : List Ent} {n : ByteArray} {j : Nat} {e : Ent} (h : ∀ (i : Nat) (x : Ent), i < j → es[i]? = some x → x.nm ≠ n) (hj : es[j]? = some e) (he : e.nm = n) : entN es n = some e := by
  unfold entN
  rw [← List.take_append_drop j es, List.find?_append]
  have h0 : (es.take j).find? (fun e => decide (e.nm = n)) = none := by
    rw [List.find?_eq_none]
    intro x hx
    obtain ⟨i, hi, e'⟩ := List.getElem_of_mem hx
    rw [List.length_take] at hi
    rw [List.getElem_take] at e'
    have := h i x (by omega) (by rw [← e']; exact List.getElem?_eq_getElem (by omega))
    simpa using this
  rw [h0, drop_at hj]
  simp [he]
theorem entN_no {es : List Ent} {n : ByteArray} (h : ∀ (i : Nat) (x : Ent), es[i]? = some x → x.nm ≠ n) : entN es n = none := by
  unfold entN
  rw [List.find?_eq_none]
  intro x hx
  obtain ⟨i, hi⟩ := List.mem_iff_getElem?.1 hx
  simpa using h i x hi
def jnN : List (List UInt8) → List UInt8
  | [] => []
  | [n] => n
  | n :: m :: r => n ++ 47 :: jnN (m :: r)
theorem jn_split : ∀ (k : Nat) (l : List UInt8), l.length ≤ k → jnN (splitS l) = l := by
  intro k
  induction k with
  | zero =>
    intro l hl
    have : l = [] := List.eq_nil_of_length_eq_zero (by omega)
    subst this
    rw [splitS_slash]
    simp [slashL, jnN]
  | succ k ih =>
    intro l hl
    rw [splitS_slash]
    by_cases h : slashL l < l.length
    · rw [if_pos h]
      have h1 := ih (l.drop (slashL l + 1)) (by rw [List.length_drop]; omega)
      obtain ⟨a, r, e⟩ := List.exists_cons_of_ne_nil (splitS_ne (l.drop (slashL l + 1)))
      rw [e] at h1 ⊢
      rw [jnN, h1]
      exact (slashL_dec l h).symm
    · rw [if_neg h]; rfl
noncomputable def getN (p : List Itm) (k : Nat) (d : Dig) (ns : List (List UInt8)) : ByteArray × Int := getF p k d (ub (jnN ns))
theorem nosl_ub {n : List UInt8} (h : ∀ c ∈ n, c ≠ 47) : NoSl (ub n) := by intro c hc; rw [bl_ub] at hc; exact h c hc
theorem cut_jn1 {n : List UInt8} (hn : ∀ c ∈ n, c ≠ 47) : fsN (ub (jnN [n])) = ub n ∧ deN (ub (jnN [n])) = false := by
  have := cut_no (nosl_ub hn)
  exact this
theorem cut_jn {n m : List UInt8} {r : List (List UInt8)} (hn : ∀ c ∈ n, c ≠ 47) : fsN (ub (jnN (n :: m :: r))) = ub n ∧ rsN (ub (jnN (n :: m :: r))) = ub (jnN (m :: r)) ∧ deN (ub (jnN (n :: m :: r))) = true := by
  refine cut_of ?_ (nosl_ub hn)
  rw [bl_ub, bl_ub, bl_ub]; rfl
end Go.Proofs.YtmdhlkkekidknaaGreatDoor

namespace Go.Proofs.YtmdhlkkekidknaaGreatDoor
open Go.RowKit

def withF (l : List Fl) (f : Fl) : List Fl := l.filter (fun g => less g.1 f.1) ++ f :: l.filter (fun g => less f.1 g.1)
def wotF (l : List Fl) (s : ByteArray) : List Fl := l.filter (fun g => !decide (g.1 = s))
theorem mem_withF {l : List Fl} {f g : Fl} : g ∈ withF l f ↔ (g ∈ l ∧ g.1 ≠ f.1) ∨ g = f := by
  unfold withF
  rw [List.mem_append, List.mem_cons, List.mem_filter, List.mem_filter]
  constructor
  · rintro (⟨h1, h2⟩ | h | ⟨h1, h2⟩)
    · exact .inl ⟨h1, lessB_ne h2⟩
    · exact .inr h
    · exact .inl ⟨h1, fun e => lessB_ne h2 e.symm⟩
  · rintro (⟨h1, h2⟩ | h)
    · cases h3 : less g.1 f.1 with
      | true => exact .inl ⟨h1, rfl⟩
      | false =>
        cases h4 : less f.1 g.1 with
        | true => exact .inr (.inr ⟨h1, rfl⟩)
        | false => exact absurd (lessB_conn h3 h4) h2
    · exact .inr (.inl h)
theorem asc_withF {l : List Fl} (h : AscF l) (f : Fl) : AscF (withF l f) := by
  unfold withF AscF
  rw [List.pairwise_append]
  refine ⟨h.filter _, ?_, ?_⟩
  · rw [List.pairwise_cons]
    exact ⟨fun g hg => (List.mem_filter.1 hg).2, h.filter _⟩
  · intro a ha b hb
    have h1 := (List.mem_filter.1 ha).2
    rcases List.mem_cons.1 hb with rfl | hb
    · exact h1
    · exact lessB_trans h1 (List.mem_filter.1 hb).2
theorem asc_nodup {l : List Fl} (h : AscF l) : (l.map Prod.fst).Nodup := by
  unfold List.Nodup
  rw [List.pairwise_map]
  exact List.Pairwise.imp (fun h => lessB_ne h) h
theorem asc_wotF {l : List Fl} (h : AscF l) (s : ByteArray) : AscF (wotF l s) := List.Pairwise.filter _ h
theorem mem_wotF {l : List Fl} {s : ByteArray} {g : Fl} : g ∈ wotF l s ↔ g ∈ l ∧ g.1 ≠ s := by
  unfold wotF; rw [List.mem_filter]; simp
theorem wotF_len (l : List Fl) (s : ByteArray) : (wotF l s).length ≤ l.length := List.length_filter_le _ _
theorem filter_two (l : List Fl) {a b : Fl → Bool} (h : ∀ g, a g = true → b g = false) : (l.filter a).length + (l.filter b).length ≤ l.length := by
  induction l with
  | nil => simp
  | cons g l ih =>
    rw [List.filter_cons, List.filter_cons]
    cases ha : a g with
    | true => rw [h g ha]; simp; omega
    | false => cases b g <;> simp <;> omega
theorem withF_len (l : List Fl) (f : Fl) : (withF l f).length ≤ l.length + 1 := by
  unfold withF
  have := filter_two l (a := fun g => less g.1 f.1) (b := fun g => less f.1 g.1) (fun g h => lessB_asymm h)
  rw [List.length_append, List.length_cons]; omega
section
variable {l out : List Fl} {f g : Fl} {i : Nat} {put : Bool}
theorem filter_all {α : Type} {p : α → Bool} {l : List α} (h : ∀ x ∈ l, p x = true) : l.filter p = l := List.filter_eq_self.2 h
theorem filter_none {α : Type} {p : α → Bool} {l : List α} (h : ∀ x ∈ l, p x = false) : l.filter p = [] := List.filter_eq_nil_iff.2 (fun x hx => by rw [h x hx]; simp)
end
section
variable {g : Dig → ByteArray → List Fl × Int} {p : List Itm} {pre : ByteArray} {es : List Ent} {l fs m : List Fl} {j : Nat} {e : Ent}
end
end Go.Proofs.YtmdhlkkekidknaaGreatDoor

namespace Go.Proofs.YtmdhlkkekidknaaGreatDoor
open Go.RowKit

structure FCh where
  path : ByteArray
  ho : Bool
  hn : Bool
  old : ByteArray
  new : ByteArray
def fcC (x : FCh) : List Value := [.string x.path, .bool x.ho, .bool x.hn, .string x.old, .string x.new]
theorem fcC_len (x : FCh) : (fcC x).length = 5 := rfl
def eB : ByteArray := ⟨#[]⟩
def chg (a b : List Fl) (s : ByteArray) : FCh := ⟨s, (lookF9 a s).isSome, (lookF9 b s).isSome, (lookF9 a s).getD eB, (lookF9 b s).getD eB⟩
def isCh (x : FCh) : Prop := x.ho ≠ x.hn ∨ x.old ≠ x.new
instance (x : FCh) : Decidable (isCh x) := by unfold isCh; infer_instance
def AscC (c : List FCh) : Prop := c.Pairwise (fun a b => less a.path b.path = true)
structure DifR (a b : List Fl) (c : List FCh) : Prop where
  asc : AscC c
  mem : ∀ x, x ∈ c ↔ x = chg a b x.path ∧ isCh x
theorem DifR.nil {a b : List Fl} {c : List FCh} (h : DifR a b c) (hs : ∀ s, lookF9 a s = lookF9 b s) : c = [] := by
  cases c with
  | nil => rfl
  | cons x c =>
    obtain ⟨h1, h2⟩ := (h.mem x).1 (by simp)
    rw [h1] at h2
    unfold isCh chg at h2
    rw [hs] at h2
    simp at h2
theorem difR_of {a b : List Fl} {ks : List ByteArray} (ha : Asc ks) (hm : ∀ s, s ∈ ks ↔ ((lookF9 a s).isSome = true ∨ (lookF9 b s).isSome = true)) : DifR a b ((ks.map (chg a b)).filter (fun x => decide (isCh x))) := by
  refine ⟨List.Pairwise.filter _ ?_, fun x => ?_⟩
  · rw [List.pairwise_map]; exact ha
  · rw [List.mem_filter, List.mem_map, decide_eq_true_eq]
    constructor
    · rintro ⟨⟨s, _, rfl⟩, h⟩; exact ⟨rfl, h⟩
    · rintro ⟨h1, h2⟩
      refine ⟨⟨x.path, (hm _).2 ?_, h1.symm⟩, h2⟩
      rw [h1] at h2
      unfold isCh chg at h2
      simp only at h2
      cases e1 : lookF9 a x.path with
      | some _ => exact .inl rfl
      | none =>
        cases e2 : lookF9 b x.path with
        | some _ => exact .inr rfl
        | none => rw [e1, e2] at h2; simp at h2
def badC (x : FCh) : Bool := (!x.ho && !x.hn) || (!x.ho && !decide (x.old = eB)) || (!x.hn && !decide (x.new = eB))
def ordC (prev : Option ByteArray) (x : FCh) : Bool := match prev with
  | none => true
  | some s => less s x.path
def ckC (l : List Fl) (prev : Option ByteArray) (x : FCh) : Int :=
  if pathB x.path = false then 6 else if badC x = true then 1 else if ordC prev x = false then 10
  else if (lookF9 l x.path).isSome ≠ x.ho ∨ (lookF9 l x.path).getD eB ≠ x.old then 17 else 0
def appC (m : List Fl) (x : FCh) : List Fl := if x.hn = true then withF m (x.path, x.new) else wotF m x.path
def patW (l : List Fl) : List Fl → Option ByteArray → List FCh → List Fl × Int
  | m, _, [] => (m, 0)
  | m, prev, x :: r => if ckC l prev x = 0 then patW l (appC m x) (some x.path) r else ([], ckC l prev x)
theorem asc_appC {m : List Fl} (h : AscF m) (x : FCh) : AscF (appC m x) := by
  unfold appC; split
  · exact asc_withF h _
  · exact asc_wotF h _
theorem appC_len (m : List Fl) (x : FCh) : (appC m x).length ≤ m.length + 1 := by
  unfold appC; split
  · exact withF_len _ _
  · have := wotF_len m x.path; omega
structure PatAt (l : List Fl) (c : List FCh) (j : Nat) (m : List Fl) : Prop where
  eq : patW l l none c = patW l m (if j = 0 then none else (c[j - 1]?).map FCh.path) (c.drop j)
  asc : AscF m
  len : m.length ≤ l.length + j
section
variable {l m : List Fl} {c : List FCh} {j : Nat} {x : FCh}
theorem PatAt.start (h : AscF l) : PatAt l c 0 l := ⟨rfl, h, Nat.le_refl _⟩
def prevC (c : List FCh) (j : Nat) : Option ByteArray := if j = 0 then none else (c[j - 1]?).map FCh.path
theorem PatAt.next (h : PatAt l c j m) (hj : c[j]? = some x) (h0 : ckC l (prevC c j) x = 0) : PatAt l c (j + 1) (appC m x) := by
  refine ⟨?_, asc_appC h.asc x, by have := h.len; have := appC_len m x; omega⟩
  rw [h.eq, drop_at hj, patW]
  have h0' : ckC l (if j = 0 then none else (c[j - 1]?).map FCh.path) x = 0 := h0
  rw [if_pos h0', if_neg (by omega), Nat.add_sub_cancel, hj]
  rfl
theorem PatAt.err (h : PatAt l c j m) (hj : c[j]? = some x) (h0 : ckC l (prevC c j) x ≠ 0) : patW l l none c = ([], ckC l (prevC c j) x) := by
  rw [h.eq, drop_at hj, patW]
  have h0' : ¬ ckC l (if j = 0 then none else (c[j - 1]?).map FCh.path) x = 0 := h0
  rw [if_neg h0']; rfl
theorem PatAt.done (h : PatAt l c j m) (hj : c.length ≤ j) : patW l l none c = (m, 0) := by rw [h.eq, List.drop_of_length_le hj, patW]
end
def PatR (l : List Fl) (c : List FCh) (m : List Fl) (err : Int) : Prop :=
  (∃ z, TckR l z ∧ z ≠ 0 ∧ err = z) ∨ (TckR l 0 ∧ (((patW l l none c).2 ≠ 0 ∧ err = (patW l l none c).2) ∨ ((patW l l none c).2 = 0 ∧ ((∃ z, TckR (patW l l none c).1 z ∧ z ≠ 0 ∧ err = z) ∨ (TckR (patW l l none c).1 0 ∧ err = 0 ∧ m = (patW l l none c).1)))))
theorem look_withF {l : List Fl} (h : AscF l) (f : Fl) (s : ByteArray) : lookF9 (withF l f) s = if s = f.1 then some f.2 else lookF9 l s := by
  have hn := asc_nodup (asc_withF h f)
  have hl := asc_nodup h
  by_cases hs : s = f.1
  · rw [if_pos hs, look9_some hn, mem_withF]; exact .inr (by rw [hs])
  · rw [if_neg hs]
    cases hk : lookF9 l s with
    | some d => rw [look9_some hn, mem_withF]; exact .inl ⟨(look9_some hl).1 hk, hs⟩
    | none =>
      rw [look9_none]
      intro g hg
      rcases mem_withF.1 hg with ⟨h1, _⟩ | rfl
      · exact look9_none.1 hk g h1
      · exact fun e => hs e.symm
theorem look_wotF {l : List Fl} (h : AscF l) (t s : ByteArray) : lookF9 (wotF l t) s = if s = t then none else lookF9 l s := by
  have hn := asc_nodup (asc_wotF h t)
  have hl := asc_nodup h
  by_cases hs : s = t
  · rw [if_pos hs, look9_none]
    intro g hg; rw [hs]; exact (mem_wotF.1 hg).2
  · rw [if_neg hs]
    cases hk : lookF9 l s with
    | some d => rw [look9_some hn, mem_wotF]; exact ⟨(look9_some hl).1 hk, hs⟩
    | none =>
      rw [look9_none]
      intro g hg
      exact look9_none.1 hk g (mem_wotF.1 hg).1
theorem look_ext {l m : List Fl} (hl : AscF l) (hm : AscF m) (h : ∀ s, lookF9 l s = lookF9 m s) : l = m := by
  refine AscF.ext hl hm (fun f => ?_)
  have h1 := look9_some (asc_nodup hl) (n := f.1) (s := f.2)
  have h2 := look9_some (asc_nodup hm) (n := f.1) (s := f.2)
  rw [← h1, ← h2, h]
end Go.Proofs.YtmdhlkkekidknaaGreatDoor

namespace Go.Proofs.YtmdhlkkekidknaaGreatDoor
open Go.RowKit

theorem entN_mem {es : List Ent} (h : OkEs es) {e : Ent} (he : e ∈ es) : entN es e.nm = some e := by
  obtain ⟨j, hj⟩ := List.mem_iff_getElem?.1 he
  refine entN_at (j := j) (fun _ x hi hx hn => ?_) hj rfl
  have hnm := asc_names h
  rw [List.pairwise_iff_getElem] at hnm
  obtain ⟨h1, rfl⟩ := List.getElem?_eq_some_iff.1 hx
  obtain ⟨h2, rfl⟩ := List.getElem?_eq_some_iff.1 hj
  exact hnm _ j h1 h2 hi hn
theorem entN_none {es : List Ent} {n : ByteArray} (h : n ∉ es.map Ent.nm) : entN es n = none :=
  entN_no (fun _ x hx hn => h (List.mem_map.2 ⟨x, List.mem_of_getElem? hx, hn⟩))
theorem std_get {q : List Itm} (hq : PlOk q) : ∀ (k : Nat) (d : Dig) (l : List Fl), OkL l → Std q k d l → ∀ (m : Nat) (s : ByteArray), pathB s = true → s.size < m →
    (∀ b, (s, b) ∈ l → getF q m d s = (b, 0)) ∧ ((∀ f ∈ l, f.1 ≠ s) → (getF q m d s).2 ≠ 0 ∧ ((∀ f ∈ l, belB f.1 s = false ∧ belB s f.1 = false) → (getF q m d s).2 = 8)) := by
  intro k
  induction k with
  | zero => intro d l _ h; exact h.elim
  | succ k ih =>
    rintro d l hl hst m s hps hsm
    have hst0 := hst
    obtain ⟨es, h1, h2, h3⟩ := hst
    obtain ⟨m, rfl⟩ : ∃ m', m = m' + 1 := ⟨m - 1, by omega⟩
    have hes : OkEs es := okO_tree (o := treeO es) (getP_ok hq h1) rfl
    by_cases hmem : fsN s ∈ es.map Ent.nm
    · obtain ⟨e, he, hen⟩ := List.mem_map.1 hmem
      have hent : entN (treeO es).ents (fsN s) = some e := by rw [← hen]; exact entN_mem hes he
      rcases h3 e he with ⟨a, b, c, f⟩ | ⟨a, b, c, f⟩
      · cases hd : deN s with
        | true =>
          have hg : getF q (m + 1) d s = (⟨#[]⟩, 9) := getF_dir h1 rfl hent (by rw [a, hd]; simp)
          have hb : belB e.nm s = true := (belB_iff _ _).2 ⟨bl (rsN s), by rw [hen]; exact cut_deep hd⟩
          refine ⟨fun b' hb' => ?_, fun hno => ⟨by rw [hg]; simp, fun hall => ?_⟩⟩
          · have := hl.nob _ c _ hb'
            simp only at this
            rw [hb] at this; cases this
          · have := (hall _ c).1
            simp only at this
            rw [hb] at this; cases this
        | false =>
          have hfl := cut_flat hd
          have hg : getF q (m + 1) d s = (b, 0) := by rw [getF_file h1 rfl hent a hd, datP_some f rfl]; rfl
          have hes' : e.nm = s := by rw [hen, hfl]
          rw [hes'] at c
          refine ⟨fun b' hb' => ?_, fun hno => absurd rfl (hno _ c)⟩
          have h4 := (look9_some hl.nod).2 c
          rw [(look9_some hl.nod).2 hb'] at h4
          cases h4; exact hg
      · cases hd : deN s with
        | true =>
          have hg : getF q (m + 1) d s = getF q m e.dg (rsN s) := getF_sub h1 rfl hent a hd
          have hr := path_rest hps hd
          obtain ⟨i1, i2⟩ := ih e.dg (inD l e.nm) (hl.sub _) f m (rsN s) hr.1 (by omega)
          have hse := deep_eq hd
          refine ⟨fun b' hb' => ?_, fun hno => ?_⟩
          · rw [hg]; exact i1 b' (mem_inD.2 ⟨_, hb', hd, hen.symm, rfl⟩)
          · rw [hg]
            obtain ⟨j1, j2⟩ := i2 (fun x hx h0 => by
              obtain ⟨g, hg, g1, g2, rfl⟩ := mem_inD.1 hx
              exact hno g hg (cut_eq g1 hd (g2.trans hen) h0))
            refine ⟨j1, fun hall => j2 (fun x hx => ?_)⟩
            obtain ⟨g, hg, g1, g2, rfl⟩ := mem_inD.1 hx
            obtain ⟨k1, k2⟩ := hall g hg
            refine ⟨?_, ?_⟩
            · rw [Bool.eq_false_iff] at k1 ⊢
              intro h0
              obtain ⟨r, hr⟩ := (belB_iff _ _).1 h0
              simp only at hr
              refine k1 ((belB_iff _ _).2 ⟨r, ?_⟩)
              rw [cut_deep hd, cut_deep g1, g2, hen, hr]; simp
            · rw [Bool.eq_false_iff] at k2 ⊢
              intro h0
              obtain ⟨r, hr⟩ := (belB_iff _ _).1 h0
              simp only at hr
              refine k2 ((belB_iff _ _).2 ⟨r, ?_⟩)
              rw [cut_deep hd, cut_deep g1, g2, hen, hr]; simp
        | false =>
          have hg : getF q (m + 1) d s = (⟨#[]⟩, 9) := getF_dir h1 rfl hent (by rw [a, hd]; simp)
          have hfl := cut_flat hd
          refine ⟨fun b' hb' => absurd (by rw [hen, hfl]) (c _ hb'), fun hno => ⟨by rw [hg]; simp, fun hall => ?_⟩⟩
          obtain ⟨x, hx⟩ := List.exists_mem_of_ne_nil _ b
          obtain ⟨g, hg, g1, g2, rfl⟩ := mem_inD.1 hx
          have := (hall g hg).2
          rw [Bool.eq_false_iff] at this
          refine absurd ((belB_iff _ _).2 ⟨bl (rsN g.1), ?_⟩) this
          rw [cut_deep g1, g2, hen, hfl]
    · have hg : getF q (m + 1) d s = (⟨#[]⟩, 8) := getF_ent h1 rfl (entN_none hmem)
      refine ⟨fun b hb => ?_, fun _ => ⟨by rw [hg]; simp, fun _ => by rw [hg]⟩⟩
      refine absurd ?_ hmem
      rw [h2, nms_mem]
      exact ⟨_, hb, rfl⟩
end Go.Proofs.YtmdhlkkekidknaaGreatDoor

namespace Go.Proofs.YtmdhlkkekidknaaGreatDoor
open Go.RowKit

theorem tchk_up : ∀ {p : Option ByteArray} {fs : List Fl}, tchk p fs = 0 → (∀ f ∈ fs, upB p f.1 = true) ∧ AscF fs ∧ ∀ f ∈ fs, pathB f.1 = true
  | p, [], _ => ⟨fun f h => (by cases h), List.Pairwise.nil, fun f h => (by cases h)⟩
  | p, f :: r, h => by
    unfold tchk at h
    by_cases h1 : pathB f.1 = true
    · rw [if_pos h1] at h
      by_cases h2 : upB p f.1 = true
      · rw [if_pos h2] at h
        obtain ⟨i1, i2, i3⟩ := tchk_up h
        refine ⟨fun g hg => ?_, List.pairwise_cons.2 ⟨fun g hg => i1 g hg, i2⟩, fun g hg => ?_⟩
        · rcases List.mem_cons.1 hg with rfl | hg
          · exact h2
          · cases p with
            | none => rfl
            | some q => exact lessB_trans h2 (i1 g hg)
        · rcases List.mem_cons.1 hg with rfl | hg
          · exact h1
          · exact i3 g hg
      · rw [if_neg h2] at h; cases h
    · rw [if_neg h1] at h; cases h
theorem tchk_back : ∀ {p : Option ByteArray} {fs : List Fl}, (∀ f ∈ fs, upB p f.1 = true) → AscF fs → (∀ f ∈ fs, pathB f.1 = true) → tchk p fs = 0
  | p, [], _, _, _ => rfl
  | p, f :: r, h1, h2, h3 => by
    unfold tchk
    rw [if_pos (h3 f (by simp)), if_pos (h1 f (by simp))]
    exact tchk_back (fun g hg => h2.head hg) h2.tail (fun g hg => h3 g (by simp [hg]))
theorem ck_ok {fs : List Fl} (h : TckR fs 0) (hd : ∀ f ∈ fs, f.2.size ≤ 60000) : OkL fs ∧ AscF fs := by
  rcases h with ⟨_, h⟩ | ⟨_, h1, h2⟩ | ⟨h1, h2, h3⟩
  · cases h
  · exact absurd h2.symm h1
  · obtain ⟨_, h4, h5⟩ := tchk_up h2
    rcases h3 with ⟨_, h⟩ | ⟨h3, _⟩
    · cases h
    · refine ⟨⟨h5, hd, h1, asc_nodup h4, fun f hf g hg => ?_⟩, h4⟩
      cases hb : belB f.1 g.1 with
      | false => rfl
      | true => exact absurd (dirE_of hf hg hb) h3
theorem ck_back {fs : List Fl} (h : OkL fs) (ha : AscF fs) : TckR fs 0 :=
  .inr (.inr ⟨h.few, tchk_back (fun _ _ => rfl) ha h.path, .inr ⟨dirE_no h.nob, rfl⟩⟩)
theorem ck_with {l : List Fl} {f : Fl} {err : Int} (hl : OkL l) (ha : AscF l) (hn : l.length ≤ 199) (hp : pathB f.1 = true) (h : TckR (withF l f) err) : err = 0 ∨ err = 7 := by
  have hlen := withF_len l f
  have ht : tchk none (withF l f) = 0 := tchk_back (fun _ _ => rfl) (asc_withF ha f) (fun g hg => by
    rcases mem_withF.1 hg with ⟨h1, _⟩ | rfl
    · exact hl.path g h1
    · exact hp)
  rcases h with ⟨h, _⟩ | ⟨_, h1, _⟩ | ⟨_, _, h3⟩
  · omega
  · exact absurd ht h1
  · rcases h3 with ⟨_, h⟩ | ⟨_, h⟩
    · exact .inr h
    · exact .inl h
theorem okL_wot {l : List Fl} (h : OkL l) (s : ByteArray) : OkL (wotF l s) :=
  ⟨fun f hf => h.path f (mem_wotF.1 hf).1, fun f hf => h.data f (mem_wotF.1 hf).1, Nat.le_trans (wotF_len l s) h.few, (h.nod.sublist (List.Sublist.map _ (List.filter_sublist))), fun f hf g hg => h.nob f (mem_wotF.1 hf).1 g (mem_wotF.1 hg).1⟩
theorem wot_with {l : List Fl} (ha : AscF l) {f : Fl} (h : ∀ g ∈ l, g.1 ≠ f.1) : wotF (withF l f) f.1 = l := by
  refine AscF.ext (asc_wotF (asc_withF ha f) _) ha (fun g => ?_)
  rw [mem_wotF, mem_withF]
  constructor
  · rintro ⟨h1 | rfl, h2⟩
    · exact h1.1
    · exact absurd rfl h2
  · intro hg; exact ⟨.inl ⟨hg, h g hg⟩, h g hg⟩
structure ChOk (l : List Fl) (x : FCh) : Prop where
  path : pathB x.path = true
  ok : badC x = false
  has : (lookF9 l x.path).isSome = x.ho
  old : (lookF9 l x.path).getD eB = x.old
theorem patW_all {l : List Fl} : ∀ (c : List FCh) (m : List Fl) (prev : Option ByteArray), (∀ x ∈ c, ChOk l x) → AscC c → (∀ x ∈ c, ordC prev x = true) → AscF m →
    (patW l m prev c).2 = 0 ∧ AscF (patW l m prev c).1 ∧ ∀ s, lookF9 (patW l m prev c).1 s = match c.find? (fun x => decide (x.path = s)) with
      | some x => if x.hn = true then some x.new else none
      | none => lookF9 m s
  | [], m, prev, _, _, _, hm => ⟨rfl, hm, fun s => rfl⟩
  | x :: r, m, prev, h, ha, ho, hm => by
    obtain ⟨h1, h2, h3, h4⟩ := h x (by simp)
    have hk : ckC l prev x = 0 := by
      unfold ckC
      rw [if_neg (by rw [h1]; simp), if_neg (by rw [h2]; simp), if_neg (by rw [ho x (by simp)]; simp), if_neg (by rw [h3, h4]; simp)]
    have ha' := List.pairwise_cons.1 ha
    obtain ⟨i1, i2, i3⟩ := patW_all (l := l) r (appC m x) (some x.path) (fun y hy => h y (by simp [hy])) ha'.2 (fun y hy => ha'.1 y hy) (asc_appC hm x)
    rw [patW, if_pos hk]
    refine ⟨i1, i2, fun s => ?_⟩
    rw [i3]
    by_cases hs : x.path = s
    · rw [List.find?_cons_of_pos (by simpa using hs)]
      have hn : r.find? (fun x => decide (x.path = s)) = none := by
        rw [List.find?_eq_none]
        intro y hy h0
        have := ha'.1 y hy
        rw [of_decide_eq_true h0, hs, lessB_irrefl] at this; cases this
      rw [hn]
      simp only
      unfold appC
      by_cases hx : x.hn = true
      · rw [if_pos hx, if_pos hx, look_withF hm, if_pos hs.symm]
      · rw [if_neg hx, if_neg hx, look_wotF hm, if_pos hs.symm]
    · rw [List.find?_cons_of_neg (by simpa using hs)]
      cases hf : r.find? (fun x => decide (x.path = s)) with
      | some y => rfl
      | none =>
        simp only
        unfold appC
        by_cases hx : x.hn = true
        · rw [if_pos hx, look_withF hm, if_neg (fun e => hs e.symm)]
        · rw [if_neg hx, look_wotF hm, if_neg (fun e => hs e.symm)]
theorem chg_ok {a b : List Fl} (ha : OkL a) (hb : OkL b) {s : ByteArray} (h : isCh (chg a b s)) : ChOk a (chg a b s) := by
  refine ⟨?_, ?_, rfl, rfl⟩
  · show pathB s = true
    cases e1 : lookF9 a s with
    | some d => exact ha.path _ ((look9_some ha.nod).1 e1)
    | none =>
      cases e2 : lookF9 b s with
      | some d => exact hb.path _ ((look9_some hb.nod).1 e2)
      | none => unfold isCh chg at h; rw [e1, e2] at h; simp at h
  · unfold badC isCh chg at *
    cases e1 : lookF9 a s with
    | some d =>
      cases e2 : lookF9 b s with
      | some d' => simp
      | none => simp [eB]
    | none =>
      cases e2 : lookF9 b s with
      | some d' => simp [eB]
      | none => rw [e1, e2] at h; simp at h
theorem patch_there {a b : List Fl} {c : List FCh} (ha : OkL a) (hb : OkL b) (haa : AscF a) (hba : AscF b) (h : DifR a b c) : patW a a none c = (b, 0) := by
  obtain ⟨h1, h2, h3⟩ := patW_all (l := a) c a none (fun x hx => by
    obtain ⟨e1, e2⟩ := (h.mem x).1 hx
    rw [e1] at e2 ⊢
    exact chg_ok ha hb e2) h.asc (fun _ _ => rfl) haa
  refine Prod.ext (look_ext h2 hba (fun s => ?_)) h1
  rw [h3]
  cases hf : c.find? (fun x => decide (x.path = s)) with
  | some x =>
    have hm := List.mem_of_find?_eq_some hf
    have hs : x.path = s := of_decide_eq_true (List.find?_some (p := fun x : FCh => decide (x.path = s)) hf)
    obtain ⟨e1, _⟩ := (h.mem x).1 hm
    rw [hs] at e1
    simp only
    rw [e1]
    unfold chg
    cases lookF9 b s <;> simp
  | none =>
    have hn : ¬ isCh (chg a b s) := fun h0 => by
      have := (h.mem (chg a b s)).2 ⟨rfl, h0⟩
      rw [List.find?_eq_none] at hf
      have := hf _ this
      simp [chg] at this
    unfold isCh chg at hn
    simp only
    cases e1 : lookF9 a s <;> cases e2 : lookF9 b s <;> rw [e1, e2] at hn <;> simp_all
def oppC (x : FCh) : FCh := ⟨x.path, x.hn, x.ho, x.new, x.old⟩
theorem opp_opp (x : FCh) : oppC (oppC x) = x := rfl
theorem difR_opp {a b : List Fl} {c : List FCh} (h : DifR a b c) : DifR b a (c.map oppC) := by
  refine ⟨?_, fun x => ?_⟩
  · unfold AscC; rw [List.pairwise_map]; exact h.asc
  · rw [List.mem_map]
    have e : ∀ s, chg b a s = oppC (chg a b s) := fun s => rfl
    have ei : ∀ x, isCh (oppC x) ↔ isCh x := fun x => by
      unfold isCh oppC; simp only
      constructor
      · rintro (h | h)
        · exact .inl h.symm
        · exact .inr h.symm
      · rintro (h | h)
        · exact .inl h.symm
        · exact .inr h.symm
    constructor
    · rintro ⟨y, hy, rfl⟩
      obtain ⟨h1, h2⟩ := (h.mem y).1 hy
      refine ⟨?_, (ei y).2 h2⟩
      show oppC y = chg b a y.path
      rw [e, ← h1]
    · rintro ⟨h1, h2⟩
      rw [e] at h1
      refine ⟨oppC x, (h.mem _).2 ⟨?_, (ei x).2 h2⟩, opp_opp x⟩
      show oppC x = chg a b x.path
      conv => lhs; rw [h1]
      rfl
theorem difR_nil {a b : List Fl} {c : List FCh} (haa : AscF a) (hba : AscF b) (h : DifR a b c) : c = [] ↔ a = b := by
  constructor
  · rintro rfl
    refine look_ext haa hba (fun s => ?_)
    have hn : ¬ isCh (chg a b s) := fun h0 => by
      have := (h.mem (chg a b s)).2 ⟨rfl, h0⟩; cases this
    unfold isCh chg at hn
    cases e1 : lookF9 a s <;> cases e2 : lookF9 b s <;> rw [e1, e2] at hn <;> simp_all
  · rintro rfl; exact h.nil (fun s => rfl)
theorem std_uniq {q : List Itm} {k k' : Nat} {d : Dig} {a b : List Fl} (hq : PlOk q) (ha : OkL a) (hb : OkL b) (haa : AscF a) (hba : AscF b) (h : Std q k d a) (g : Std q k' d b) : a = b :=
  (std_load hq ha h haa).uniq (std_load hq hb g hba)
end Go.Proofs.YtmdhlkkekidknaaGreatDoor

namespace Go.Proofs.YtmdhlkkekidknaaGreatDoor
open Go.RowKit

def sA : ByteArray := ⟨#[97]⟩
def sAX : ByteArray := ⟨#[97, 47, 120]⟩
def sX : ByteArray := ⟨#[120]⟩
def sB : ByteArray := ⟨#[98]⟩
def s1 : ByteArray := ⟨#[49]⟩
def s2 : ByteArray := ⟨#[50]⟩
def s3 : ByteArray := ⟨#[51]⟩
def awL : List Fl := [(sAX, s1), (sB, s2)]
theorem encT_s (s : ByteArray) (h : s.size < 128) : encT (toL s) = UInt8.ofNat s.size :: toL s := by
  unfold encT
  have : (toL s).length = s.size := by simp [toL]
  rw [this, encN_small h]; rfl
theorem enc_blob (s : ByteArray) (h : s.size < 128) : encO (blobO s) = 1 :: UInt8.ofNat s.size :: toL s := by
  show encN 1 ++ encT (toL s) = _
  rw [encN_small (by omega), encT_s s h]; rfl
theorem encE_s (e : Ent) (h : e.nm.size < 128) : encE e = UInt8.ofNat e.nm.size :: toL e.nm ++ (if e.dir = true then 1 else 0) :: digB e.dg := by
  unfold encE
  rw [encT_s _ h]
  cases e.dir <;> rw [encN_small (by simp)] <;> simp
theorem enc_tree (es : List Ent) (h : es.length < 128) : encO (treeO es) = 2 :: UInt8.ofNat es.length :: es.flatMap encE := by
  show encN 2 ++ (encN es.length ++ es.flatMap encE) = _
  rw [encN_small (n := 2) (by omega), encN_small h]; rfl
def xB1 : Itm := (ofB [1, 1, 49], ofL [1, 1, 49])
def xB2 : Itm := (ofB [1, 1, 50], ofL [1, 1, 50])
def bT : Bytes := [2, 1, 1, 120, 0] ++ digB (ofB [1, 1, 49])
def xT : Itm := (ofB bT, ofL bT)
def bR : Bytes := [2, 2, 1, 97, 1] ++ digB (ofB bT) ++ [1, 98, 0] ++ digB (ofB [1, 1, 50])
def xR : Itm := (ofB bR, ofL bR)
def q1 : List Itm := (insP [] xB1).getD []
def q2 : List Itm := (insP q1 xT).getD []
def q3 : List Itm := (insP q2 xB2).getD []
def q4 : List Itm := (insP q3 xR).getD []
theorem some_of {α : Type} {o : Option (List α)} (h : o.isSome = true) : o = some (o.getD []) := by cases o with | none => cases h | some _ => rfl
theorem i1 : insP [] xB1 = some q1 := some_of (by decide +kernel)
theorem i2 : insP q1 xT = some q2 := some_of (by decide +kernel)
theorem i3 : insP q2 xB2 = some q3 := some_of (by decide +kernel)
theorem i4 : insP q3 xR = some q4 := some_of (by decide +kernel)
theorem q4_len : q4.length = 4 := by decide +kernel
theorem put1 : putP [] (blobO s1) = some q1 := by unfold putP; rw [enc_blob s1 (by decide)]; exact i1
theorem put3 : putP q2 (blobO s2) = some q3 := by unfold putP; rw [enc_blob s2 (by decide)]; exact i3
theorem dg1_eq : dgO (blobO s1) = ofB [1, 1, 49] := by unfold dgO; rw [enc_blob s1 (by decide)]; rfl
theorem dg2_eq : dgO (blobO s2) = ofB [1, 1, 50] := by unfold dgO; rw [enc_blob s2 (by decide)]; rfl
theorem encT1 : encO (treeO [⟨sX, false, ofB [1, 1, 49]⟩]) = bT := by
  rw [enc_tree _ (by decide), List.flatMap_cons, List.flatMap_nil, encE_s _ (by decide)]; rfl
theorem encR1 : encO (treeO [⟨sA, true, ofB bT⟩, ⟨sB, false, ofB [1, 1, 50]⟩]) = bR := by
  rw [enc_tree _ (by decide), List.flatMap_cons, List.flatMap_cons, List.flatMap_nil, encE_s _ (by decide), encE_s _ (by decide)]
  rfl
theorem nm1 : nmsP awL = [sA, sB] := by decide +kernel
theorem nm2 : nmsP [(sX, s1)] = [sX] := by decide +kernel
theorem in1 : inD awL sA = [(sX, s1)] := by decide +kernel
theorem sto_sub (k : Nat) : sto (k + 1) [] [(sX, s1)] = some (q2, ofB bT) := by
  rw [sto, nm2, stoE_file (s := s1) (by decide +kernel) put1, stoE, List.nil_append, dg1_eq]
  simp only
  have : putP q1 (treeO [⟨sX, false, ofB [1, 1, 49]⟩]) = some q2 := by unfold putP; rw [encT1]; exact i2
  rw [this]
  simp only [dgO, encT1]
theorem sto_aw : sto 101 [] awL = some (q4, ofB bR) := by
  rw [sto, nm1, stoE_dir (by decide +kernel) (by rw [in1]; exact sto_sub 99), stoE_file (s := s2) (by decide +kernel) put3, stoE, List.nil_append, dg2_eq]
  simp only [List.cons_append, List.nil_append]
  have : putP q3 (treeO [⟨sA, true, ofB bT⟩, ⟨sB, false, ofB [1, 1, 50]⟩]) = some q4 := by unfold putP; rw [encR1]; exact i4
  rw [this]
  simp only [dgO, encR1]
end Go.Proofs.YtmdhlkkekidknaaGreatDoor

namespace Go.Proofs
open Go.Shelf
def Tryz.laysGsp_ren : Go.Shelf.Ren := ⟨fun | 221 => 117 | 268 => 166 | 138 => 21 | 143 => 54 | 195 => 52 | 197 => 186 | 218 => 53 | 219 => 105 | 260 => 209 | 217 => 136 | 225 => 137 | 224 => 138 | 267 => 139 | 266 => 188 | 314 => 189 | n => n, fun | 9 => 9 | 3 => 3 | 31 => 96 | 4 => 4 | 0 => 0 | 105 => 204 | 21 => 21 | 5 => 5 | 46 => 144 | 119 => 237 | 139 => 240 | 138 => 239 | 146 => 207 | 51 => 176 | n => n, fun | 1 => 0 | 3 => 1 | 4 => 2 | n => n⟩
theorem Tryz.laysGsp : Go.Proofs.Lays.n221 Tryz.prog Tryz.laysGsp_ren := {
  mixed := by kernel_rfl
  f138 := Tryz.func21.trans (congrArg some (by kernel_rfl))
  f143 := Tryz.func54.trans (congrArg some (by kernel_rfl))
  f195 := Tryz.func52.trans (congrArg some (by kernel_rfl))
  f197 := Tryz.func186.trans (congrArg some (by kernel_rfl))
  f217 := Tryz.func136.trans (congrArg some (by kernel_rfl))
  f218 := Tryz.func53.trans (congrArg some (by kernel_rfl))
  f219 := Tryz.func105.trans (congrArg some (by kernel_rfl))
  f221 := Tryz.func117.trans (congrArg some (by kernel_rfl))
  f224 := Tryz.func138.trans (congrArg some (by kernel_rfl))
  f225 := Tryz.func137.trans (congrArg some (by kernel_rfl))
  f260 := Tryz.func209.trans (congrArg some (by kernel_rfl))
  f266 := Tryz.func188.trans (congrArg some (by kernel_rfl))
  f267 := Tryz.func139.trans (congrArg some (by kernel_rfl))
  f268 := Tryz.func166.trans (congrArg some (by kernel_rfl))
  f314 := Tryz.func189.trans (congrArg some (by kernel_rfl))
  t0 := Tryz.underlying0
  a0 := Tryz.isAgg0
  z0 := Tryz.sizeOf0
  v0 := Tryz.zeroValue0
  t3 := Tryz.underlying3
  a3 := Tryz.isAgg3
  z3 := Tryz.sizeOf3
  v3 := Tryz.zeroValue3
  t4 := Tryz.underlying4
  a4 := Tryz.isAgg4
  z4 := Tryz.sizeOf4
  v4 := Tryz.zeroValue4
  t5 := Tryz.underlying5
  a5 := Tryz.isAgg5
  z5 := Tryz.sizeOf5
  v5 := Tryz.zeroValue5
  t9 := Tryz.underlying9
  a9 := Tryz.isAgg9
  z9 := Tryz.sizeOf9
  v9 := Tryz.zeroValue9
  t21 := Tryz.underlying21
  a21 := Tryz.isAgg21
  z21 := Tryz.sizeOf21
  v21 := Tryz.zeroValue21
  t31 := Tryz.underlying96
  a31 := Tryz.isAgg96
  z31 := Tryz.sizeOf96
  v31 := Tryz.zeroValue96
  t46 := Tryz.underlying144
  a46 := Tryz.isAgg144
  z46 := Tryz.sizeOf144
  v46 := Tryz.zeroValue144
  t51 := Tryz.underlying176
  a51 := Tryz.isAgg176
  z51 := Tryz.sizeOf176
  v51 := Tryz.zeroValue176
  t105 := Tryz.underlying204
  a105 := Tryz.isAgg204
  z105 := Tryz.sizeOf204
  v105 := Tryz.zeroValue204
  t119 := Tryz.underlying237
  a119 := Tryz.isAgg237
  z119 := Tryz.sizeOf237
  t138 := Tryz.underlying239
  a138 := Tryz.isAgg239
  z138 := Tryz.sizeOf239
  v138 := Tryz.zeroValue239
  t139 := Tryz.underlying240
  a139 := Tryz.isAgg240
  z139 := Tryz.sizeOf240
  v139 := Tryz.zeroValue240
  t146 := Tryz.underlying207
  a146 := Tryz.isAgg207
  z146 := Tryz.sizeOf207
  v146 := Tryz.zeroValue207
  g1 := by kernel_rfl
  g3 := by kernel_rfl
  g4 := by kernel_rfl }
def Tryz.idxEnt_ren : Go.Shelf.Ren := ⟨fun | 6 => 70 | n => n, fun | 22 => 79 | 23 => 102 | 25 => 103 | 3 => 3 | 0 => 0 | 4 => 4 | n => n, fun | n => n⟩
theorem Tryz.idxEnt : Go.Proofs.SlLaysH0.n6 Tryz.prog Tryz.idxEnt_ren := {
  mixed := by kernel_rfl
  f6 := ⟨Tryz.f70.name, by decide, Tryz.func70.trans (congrArg some (by kernel_rfl))⟩
  t0 := Tryz.underlying0
  a0 := Tryz.isAgg0
  z0 := Tryz.sizeOf0
  v0 := Tryz.zeroValue0
  t3 := Tryz.underlying3
  a3 := Tryz.isAgg3
  z3 := Tryz.sizeOf3
  v3 := Tryz.zeroValue3
  t4 := Tryz.underlying4
  a4 := Tryz.isAgg4
  z4 := Tryz.sizeOf4
  v4 := Tryz.zeroValue4
  t22 := Tryz.underlying79
  a22 := Tryz.isAgg79
  z22 := Tryz.sizeOf79
  v22 := Tryz.zeroValue79
  t25 := Tryz.underlying103
  a25 := Tryz.isAgg103
  z25 := Tryz.sizeOf103
  v25 := Tryz.zeroValue103 }
def Tryz.keysF_ren : Go.Shelf.Ren := ⟨fun | 7 => 89 | 10 => 128 | n => n, fun | 23 => 124 | 26 => 9 | 3 => 68 | 28 => 115 | 0 => 0 | 27 => 114 | 33 => 70 | 4 => 4 | n => n, fun | n => n⟩
theorem Tryz.keysF : Go.Proofs.SlLaysZ.n7 Tryz.prog Tryz.keysF_ren := {
  mixed := by kernel_rfl
  f7 := ⟨Tryz.f89.name, by decide, Tryz.func89.trans (congrArg some (by kernel_rfl))⟩
  f10 := ⟨Tryz.f128.name, by decide, Tryz.func128.trans (congrArg some (by kernel_rfl))⟩
  t0 := Tryz.underlying0
  a0 := Tryz.isAgg0
  z0 := Tryz.sizeOf0
  v0 := Tryz.zeroValue0
  t4 := Tryz.underlying4
  a4 := Tryz.isAgg4
  z4 := Tryz.sizeOf4
  v4 := Tryz.zeroValue4
  t23 := Tryz.underlying124
  a23 := Tryz.isAgg124
  z23 := Tryz.sizeOf124
  v23 := Tryz.zeroValue124
  t26 := Tryz.underlying9
  a26 := Tryz.isAgg9
  z26 := Tryz.sizeOf9
  v26 := Tryz.zeroValue9
  t27 := Tryz.underlying114
  a27 := Tryz.isAgg114
  z27 := Tryz.sizeOf114
  v27 := Tryz.zeroValue114
  t28 := Tryz.underlying115
  a28 := Tryz.isAgg115
  z28 := Tryz.sizeOf115
  v28 := Tryz.zeroValue115
  t33 := Tryz.underlying70
  a33 := Tryz.isAgg70
  z33 := Tryz.sizeOf70
  v33 := Tryz.zeroValue70 }
def Tryz.keysB_ren : Go.Shelf.Ren := ⟨fun | 7 => 91 | 10 => 129 | n => n, fun | 23 => 123 | 26 => 9 | 3 => 24 | 28 => 115 | 0 => 0 | 27 => 114 | 33 => 70 | 4 => 4 | n => n, fun | n => n⟩
theorem Tryz.keysB : Go.Proofs.SlLaysZ.n7 Tryz.prog Tryz.keysB_ren := {
  mixed := by kernel_rfl
  f7 := ⟨Tryz.f91.name, by decide, Tryz.func91.trans (congrArg some (by kernel_rfl))⟩
  f10 := ⟨Tryz.f129.name, by decide, Tryz.func129.trans (congrArg some (by kernel_rfl))⟩
  t0 := Tryz.underlying0
  a0 := Tryz.isAgg0
  z0 := Tryz.sizeOf0
  v0 := Tryz.zeroValue0
  t4 := Tryz.underlying4
  a4 := Tryz.isAgg4
  z4 := Tryz.sizeOf4
  v4 := Tryz.zeroValue4
  t23 := Tryz.underlying123
  a23 := Tryz.isAgg123
  z23 := Tryz.sizeOf123
  v23 := Tryz.zeroValue123
  t26 := Tryz.underlying9
  a26 := Tryz.isAgg9
  z26 := Tryz.sizeOf9
  v26 := Tryz.zeroValue9
  t27 := Tryz.underlying114
  a27 := Tryz.isAgg114
  z27 := Tryz.sizeOf114
  v27 := Tryz.zeroValue114
  t28 := Tryz.underlying115
  a28 := Tryz.isAgg115
  z28 := Tryz.sizeOf115
  v28 := Tryz.zeroValue115
  t33 := Tryz.underlying70
  a33 := Tryz.isAgg70
  z33 := Tryz.sizeOf70
  v33 := Tryz.zeroValue70 }
def Tryz.keysC_ren : Go.Shelf.Ren := ⟨fun | 7 => 78 | 10 => 119 | n => n, fun | 23 => 110 | 26 => 9 | 3 => 112 | 28 => 115 | 0 => 0 | 27 => 114 | 33 => 70 | 4 => 4 | n => n, fun | n => n⟩
theorem Tryz.keysC : Go.Proofs.SlLaysZ.n7 Tryz.prog Tryz.keysC_ren := {
  mixed := by kernel_rfl
  f7 := ⟨Tryz.f78.name, by decide, Tryz.func78.trans (congrArg some (by kernel_rfl))⟩
  f10 := ⟨Tryz.f119.name, by decide, Tryz.func119.trans (congrArg some (by kernel_rfl))⟩
  t0 := Tryz.underlying0
  a0 := Tryz.isAgg0
  z0 := Tryz.sizeOf0
  v0 := Tryz.zeroValue0
  t4 := Tryz.underlying4
  a4 := Tryz.isAgg4
  z4 := Tryz.sizeOf4
  v4 := Tryz.zeroValue4
  t23 := Tryz.underlying110
  a23 := Tryz.isAgg110
  z23 := Tryz.sizeOf110
  v23 := Tryz.zeroValue110
  t26 := Tryz.underlying9
  a26 := Tryz.isAgg9
  z26 := Tryz.sizeOf9
  v26 := Tryz.zeroValue9
  t27 := Tryz.underlying114
  a27 := Tryz.isAgg114
  z27 := Tryz.sizeOf114
  v27 := Tryz.zeroValue114
  t28 := Tryz.underlying115
  a28 := Tryz.isAgg115
  z28 := Tryz.sizeOf115
  v28 := Tryz.zeroValue115
  t33 := Tryz.underlying70
  a33 := Tryz.isAgg70
  z33 := Tryz.sizeOf70
  v33 := Tryz.zeroValue70 }
def Tryz.keysS_ren : Go.Shelf.Ren := ⟨fun | 7 => 81 | 10 => 120 | n => n, fun | 23 => 118 | 26 => 9 | 3 => 9 | 28 => 115 | 0 => 0 | 27 => 114 | 33 => 70 | 4 => 4 | n => n, fun | n => n⟩
theorem Tryz.keysS : Go.Proofs.SlLaysZ.n7 Tryz.prog Tryz.keysS_ren := {
  mixed := by kernel_rfl
  f7 := ⟨Tryz.f81.name, by decide, Tryz.func81.trans (congrArg some (by kernel_rfl))⟩
  f10 := ⟨Tryz.f120.name, by decide, Tryz.func120.trans (congrArg some (by kernel_rfl))⟩
  t0 := Tryz.underlying0
  a0 := Tryz.isAgg0
  z0 := Tryz.sizeOf0
  v0 := Tryz.zeroValue0
  t4 := Tryz.underlying4
  a4 := Tryz.isAgg4
  z4 := Tryz.sizeOf4
  v4 := Tryz.zeroValue4
  t23 := Tryz.underlying118
  a23 := Tryz.isAgg118
  z23 := Tryz.sizeOf118
  v23 := Tryz.zeroValue118
  t26 := Tryz.underlying9
  a26 := Tryz.isAgg9
  z26 := Tryz.sizeOf9
  v26 := Tryz.zeroValue9
  t27 := Tryz.underlying114
  a27 := Tryz.isAgg114
  z27 := Tryz.sizeOf114
  v27 := Tryz.zeroValue114
  t28 := Tryz.underlying115
  a28 := Tryz.isAgg115
  z28 := Tryz.sizeOf115
  v28 := Tryz.zeroValue115
  t33 := Tryz.underlying70
  a33 := Tryz.isAgg70
  z33 := Tryz.sizeOf70
  v33 := Tryz.zeroValue70 }
end Go.Proofs
