/-
  Lemmas: A part of a graph that holds a target and all on which it depends: it is valid, and its actions read the same. Plain Lean; no program in sight. What Make's answer depends on, in plain Lean. An append at a step of a region that draws its order. action.Make. cordwoodref41.Same: whether two actions are equal; an action as an argument. SameReady on equal actions with their files. The reference's bounds on targets: it answers. The chapter's example, in plain Lean: the graph a <- b <- t is valid, and what its actions read. awake: the chapter's example. Drawn regions, one of whose operations makes a box. Lists of a known length, taken apart.
-/
import Derived.Test.YtiphbincnnppdaaDoorU6

namespace Go.Proofs.YtiphbincnnppdaaDoor
open Go.RowKit

section
variable {ts : List Tg} {qb : ByteArray → Bool}
def part (qb : ByteArray → Bool) (ts : List Tg) : List Tg := ts.filter (fun x => qb x.lab)
theorem findT_part : ∀ (ts : List Tg) {s : ByteArray}, qb s = true → findT (part qb ts) s = findT ts s
  | [], _, _ => rfl
  | r :: ts, s, h => by
    have ih := findT_part ts h
    unfold part at ih ⊢
    by_cases e : r.lab = s
    · rw [List.filter_cons_of_pos (by rw [e]; exact h)]
      simp only [findT, if_pos e]
    · by_cases hq : qb r.lab = true
      · rw [List.filter_cons_of_pos (by exact hq)]
        simp only [findT, if_neg e]; exact ih
      · rw [List.filter_cons_of_neg (by exact hq)]
        simp only [findT, if_neg e]; exact ih
theorem findT_out : ∀ (ts : List Tg) {s : ByteArray}, qb s = false → findT (part qb ts) s = none
  | [], _, _ => rfl
  | r :: ts, s, h => by
    have ih := findT_out ts h
    unfold part at ih ⊢
    by_cases hq : qb r.lab = true
    · have e : ¬ r.lab = s := fun e => by rw [e, h] at hq; cases hq
      rw [List.filter_cons_of_pos (by exact hq)]
      simp only [findT, if_neg e]; exact ih
    · rw [List.filter_cons_of_neg (by exact hq)]; exact ih
theorem isT_part (ts : List Tg) (s : ByteArray) : isT (part qb ts) s = (isT ts s && qb s) := by
  unfold isT
  cases h : qb s with
  | true => rw [findT_part ts h]; simp
  | false => rw [findT_out ts h]; simp
/-- closed: what a kept label depends on is kept -/
def Clo (qb : ByteArray → Bool) (ts : List Tg) : Prop := ∀ s, qb s = true → ∀ d ∈ nxT ts s, qb d = true
theorem nxT_part (hc : Clo qb ts) {s : ByteArray} (h : qb s = true) : nxT (part qb ts) s = nxT ts s := by
  have hcs := hc s h
  unfold nxT at hcs ⊢
  rw [findT_part ts h]
  cases hf : findT ts s with
  | none => rfl
  | some t =>
    rw [hf] at hcs
    simp only at hcs ⊢
    apply List.filter_congr
    intro d hd
    rw [isT_part]
    cases hi : isT ts d with
    | false => rfl
    | true => rw [hcs d (List.mem_filter.2 ⟨hd, hi⟩)]; rfl
theorem nxT_out {s : ByteArray} (h : qb s = false) : nxT (part qb ts) s = [] := by
  unfold nxT; rw [findT_out ts h]
theorem stp_part (hc : Clo qb ts) : ∀ {n : Nat} {a b : ByteArray}, Stp (nxT (part qb ts)) n a b → Stp (nxT ts) n a b
  | 0, a, b, h => by
    cases hq : qb a with
    | true => have h' : b ∈ nxT (part qb ts) a := h; rw [nxT_part hc hq] at h'; exact h'
    | false => have h' : b ∈ nxT (part qb ts) a := h; rw [nxT_out hq] at h'; cases h'
  | n + 1, a, b, ⟨c, h1, h2⟩ => by
    refine ⟨c, stp_part hc h1, ?_⟩
    cases hq : qb c with
    | true => rw [nxT_part hc hq] at h2; exact h2
    | false => rw [nxT_out hq] at h2; cases h2
theorem stp_keep (hc : Clo qb ts) : ∀ {n : Nat} {a b : ByteArray}, qb a = true → Stp (nxT ts) n a b → Stp (nxT (part qb ts)) n a b ∧ qb b = true
  | 0, a, b, hq, h => ⟨by show b ∈ nxT (part qb ts) a; rw [nxT_part hc hq]; exact h, hc a hq b h⟩
  | n + 1, a, b, hq, ⟨c, h1, h2⟩ => by
    obtain ⟨k1, k2⟩ := stp_keep hc hq h1
    exact ⟨⟨c, k1, by rw [nxT_part hc k2]; exact h2⟩, hc c k2 b h2⟩
theorem rch_part (hc : Clo qb ts) {a b : ByteArray} (hq : qb a = true) : Rch (nxT (part qb ts)) a b ↔ Rch (nxT ts) a b :=
  ⟨fun ⟨n, h⟩ => ⟨n, stp_part hc h⟩, fun ⟨n, h⟩ => ⟨n, (stp_keep hc hq h).1⟩⟩
theorem find_self (h : Vld ts) {t : Tg} (ht : t ∈ ts) : findT ts t.lab = some t := by
  obtain ⟨r, hr⟩ : ∃ r, findT ts t.lab = some r := Option.isSome_iff_exists.1 ((isT_iff ts t.lab).2 (List.mem_map_of_mem ht))
  obtain ⟨h1, h2⟩ := findT_lab hr
  obtain ⟨j, hj, e1⟩ := List.getElem_of_mem h2
  obtain ⟨k, hk, e2⟩ := List.getElem_of_mem ht
  have : j = k := by
    refine (List.getElem_inj (h₀ := by simpa using hj) (h₁ := by simpa using hk) h.asc.nodup).1 ?_
    simp [e1, e2, h1]
  subst this
  rw [hr, ← e1, e2]
theorem vld_part (h : Vld ts) (hc : Clo qb ts) : Vld (part qb ts) := by
  have hmem : ∀ t, t ∈ part qb ts → t ∈ ts ∧ qb t.lab = true := fun t ht => by unfold part at ht; exact List.mem_filter.1 ht
  refine ⟨Nat.le_trans (List.length_filter_le _ _) h.few, fun t ht => ?_, ?_, fun s hs => h.free s ⟨hs.choose, stp_part hc hs.choose_spec⟩⟩
  · obtain ⟨h1, h2⟩ := hmem t ht
    have ho := h.all t h1
    refine ⟨ho.lab, ho.kind, ho.few, fun d hd => ?_, ho.nod, ho.vis⟩
    have hk := ho.dep d hd
    have hi := kindOf_isT hk
    have hq : qb d = true := hc t.lab h2 d (by unfold nxT; rw [find_self h h1]; exact List.mem_filter.2 ⟨hd, hi⟩)
    unfold kindOf at hk ⊢
    rw [findT_part ts hq]; exact hk
  · exact List.Pairwise.sublist (List.Sublist.map _ List.filter_sublist) h.asc
theorem inp_part (h : Vld ts) (hc : Clo qb ts) {lab : ByteArray} (hq : qb lab = true) {kd : Int} {l : List ByteArray} {e : Int} (hi : InpR (part qb ts) lab kd l e) : InpR ts lab kd l e := by
  rcases hi with ⟨h1, _⟩ | ⟨h1, h2, h3⟩ | ⟨h1, t, h2, h3⟩
  · exact absurd (vld_part h hc) h1
  · refine .inr (.inl ⟨h, ?_, h3⟩)
    rw [isT_part, hq, Bool.and_true] at h2; exact h2
  · rw [findT_part ts hq] at h2
    refine .inr (.inr ⟨h, t, h2, ?_⟩)
    rcases h3 with h3 | ⟨h3, h4, h5, h6⟩
    · exact .inl h3
    · refine .inr ⟨h3, h4, h5, fun x => (h6 x).trans ?_⟩
      unfold InpMem
      simp only [rch_part hc hq]
end
/-- the label and what it reaches are closed -/
theorem clo_rch {ts : List Tg} {lab : ByteArray} {all : List ByteArray} (hm : ∀ x, x ∈ all ↔ Rch (nxT ts) lab x) : Clo (fun x => decide (x = lab) || memB all x) ts := by
  intro s hs d hd
  simp only [Bool.or_eq_true, decide_eq_true_iff] at hs ⊢
  right
  rw [memB_iff, hm]
  rcases hs with rfl | hs
  · exact Rch.one hd
  · rw [memB_iff, hm] at hs; exact hs.snoc hd
theorem nod_len {l m : List ByteArray} (h1 : l.Nodup) (h2 : m.Nodup) (h : ∀ x, x ∈ l ↔ x ∈ m) : l.length = m.length :=
  Nat.le_antisymm (nodup_len l m h1 (fun x hx => (h x).1 hx)) (nodup_len m l h2 (fun x hx => (h x).2 hx))
/-- what an action that is made reads -/
theorem inp_facts {ts : List Tg} {lab : ByteArray} {t : Tg} {kd : Int} {l all : List ByteArray} {e : Int} (hv : Vld ts) (hf : findT ts lab = some t) (hk : kd = 1 ∨ kd = 2 ∨ kd = 3) (ha : Asc all) (hm : ∀ x, x ∈ all ↔ Rch (nxT ts) lab x) (h : InpR ts lab kd l e) :
    ((e = 0) ↔ (kd = 1 ∨ t.kind = 2)) ∧ (e = 0 → Asc l ∧ (∀ x ∈ l, fnB x = true ∧ x.size ≤ 98) ∧ (kd = 1 → l.length = t.deps.length + 1) ∧ (kd = 2 → l.length = all.length + 1) ∧ (kd = 3 → l.length = 1)) := by
  have hto := hv.all t (findT_lab hf).2
  have htl := (findT_lab hf).1
  have hlab : labB lab = true := by rw [← htl]; exact hto.lab
  have h90 : lab.size ≤ 90 := vld_size hv (by unfold isT; rw [hf]; rfl)
  rcases h with ⟨h1, _⟩ | ⟨_, h1, _⟩ | ⟨_, t', h1, h2⟩
  · exact absurd hv h1
  · unfold isT at h1; rw [hf] at h1; cases h1
  rw [hf] at h1; cases h1
  rcases h2 with ⟨⟨hb1, hb2⟩, rfl, rfl⟩ | ⟨hb, rfl, has, hme⟩
  · refine ⟨⟨(fun h => by cases h), fun h => ?_⟩, (fun h => by cases h)⟩
    rcases h with h | h
    · exact absurd h hb1
    · rcases hb2 with ⟨h1, h2⟩ | h1
      · omega
      · rw [h1] at h; cases h
  · have named : ∀ {p r : ByteArray}, p ∈ fwS → labB r = true → fnB (p ++ r) = true := fun {p r} hp hr => by
      rw [fnB_begin (r := r) hp (by unfold bl; simp)]; exact hr
    have hsz : ∀ (p r : ByteArray), (p ++ r).size = p.size + r.size := fun p r => by simp
    have hlb : ∀ {d : ByteArray}, isT ts d = true → labB d = true ∧ d.size ≤ 90 := fun {d} hd => by
      refine ⟨?_, vld_size hv hd⟩
      obtain ⟨x, hx, rfl⟩ := List.mem_map.1 ((isT_iff ts d).1 hd)
      exact (hv.all x hx).lab
    have hdp : ∀ d ∈ t.deps, isT ts d = true := fun d hd => kindOf_isT (hto.dep d hd)
    have hrl : lab ∉ all := fun h => hv.free lab ((hm lab).1 h)
    refine ⟨⟨fun _ => ?_, fun _ => rfl⟩, fun _ => ⟨has, fun x hx => ?_, fun h1 => ?_, fun h1 => ?_, fun h1 => ?_⟩⟩
    · by_cases h1 : kd = 1
      · exact .inl h1
      · right
        rcases hto.kind with h2 | h2
        · exact absurd ⟨h1, .inr h2⟩ hb
        · exact h2
    · rcases (hme x).1 hx with ⟨_, h | ⟨d, hd, h⟩⟩ | ⟨_, h | ⟨d, hd, h⟩⟩ | ⟨_, h⟩
      · rw [h]; exact ⟨named (by simp [fwS, sourceW]) hlab, by rw [hsz]; have : sourceW.size = 7 := rfl; omega⟩
      · have := hlb (hdp d hd)
        rw [h]; exact ⟨named (by simp [fwS, ifaceW]) this.1, by rw [hsz]; have : ifaceW.size = 6 := rfl; omega⟩
      · rw [h]; exact ⟨named (by simp [fwS, codeW]) hlab, by rw [hsz]; have : codeW.size = 5 := rfl; omega⟩
      · have := hlb (rch_isT hd)
        rw [h]; exact ⟨named (by simp [fwS, codeW]) this.1, by rw [hsz]; have : codeW.size = 5 := rfl; omega⟩
      · rw [h]; exact ⟨named (by simp [fwS, programW]) hlab, by rw [hsz]; have : programW.size = 8 := rfl; omega⟩
    · subst h1
      rw [nod_len has.nodup (inp_nodup1 (lab := lab) hto.nod) (fun x => (hme x).trans ?_)]
      · simp
      · simp only [InpMem, List.mem_cons, List.mem_map]
        constructor
        · rintro (⟨_, h | ⟨d, hd, h⟩⟩ | ⟨h, _⟩ | ⟨h, _⟩)
          · exact .inl h
          · exact .inr ⟨d, hd, h.symm⟩
          · cases h
          · cases h
        · rintro (h | ⟨d, hd, h⟩)
          · exact .inl ⟨trivial, .inl h⟩
          · exact .inl ⟨trivial, .inr ⟨d, hd, h.symm⟩⟩
    · subst h1
      rw [nod_len has.nodup (inp_nodup2 ha.nodup hrl) (fun x => (hme x).trans ?_)]
      · simp
      · simp only [InpMem, List.mem_cons, List.mem_map]
        constructor
        · rintro (⟨h, _⟩ | ⟨_, h | ⟨d, hd, h⟩⟩ | ⟨h, _⟩)
          · cases h
          · exact .inl h
          · exact .inr ⟨d, (hm d).2 hd, h.symm⟩
          · cases h
        · rintro (h | ⟨d, hd, h⟩)
          · exact .inr (.inl ⟨trivial, .inl h⟩)
          · exact .inr (.inl ⟨trivial, .inr ⟨d, (hm d).1 hd, h.symm⟩⟩)
    · subst h1
      rw [nod_len (m := [programW ++ lab]) has.nodup (by simp) (fun x => (hme x).trans ?_)]
      · simp
      · simp only [InpMem, List.mem_singleton]
        constructor
        · rintro (⟨h, _⟩ | ⟨h, _⟩ | ⟨_, h⟩)
          · cases h
          · cases h
          · exact h
        · intro h; exact .inr (.inr ⟨trivial, h⟩)
theorem wrds : sourceW.size = 7 ∧ ifaceW.size = 6 ∧ codeW.size = 5 ∧ programW.size = 8 := ⟨rfl, rfl, rfl, rfl⟩
/-- what has been taken into the part so far -/
theorem part_take {qb : ByteArray → Bool} {ts : List Tg} {k : Nat} {t : Tg} (ht : ts[k]? = some t) : part qb (ts.take (k + 1)) = if qb t.lab = true then part qb (ts.take k) ++ [t] else part qb (ts.take k) := by
  unfold part
  rw [take_snoc ht, List.filter_append]
  by_cases h : qb t.lab = true
  · rw [if_pos h]; simp [h]
  · rw [if_neg h]; simp [h]
end Go.Proofs.YtiphbincnnppdaaDoor

namespace Go.Proofs.YtiphbincnnppdaaDoor
open Go.RowKit

theorem mkG_ok {fs : List Fl} : ∀ {l : List ByteArray} {acc out : List Fl}, mkG fs acc l = (out, 0) → ∃ r, out = acc ++ r ∧ r.map Prod.fst = l ∧ ∀ f ∈ r, lookF fs f.1 = some f.2 ∧ f.2.size ≤ 65536
  | [], acc, out, h => by
    simp only [mkG, Prod.mk.injEq, and_true] at h
    exact ⟨[], by simp [h], rfl, fun f hf => by cases hf⟩
  | s :: l, acc, out, h => by
    cases hs : lookF fs s with
    | none => rw [mkG_none hs] at h; cases h
    | some d =>
      by_cases hd : 65536 < d.size
      · rw [mkG_long hs hd] at h; cases h
      · rw [mkG_next hs hd] at h
        obtain ⟨r, h1, h2, h3⟩ := mkG_ok h
        refine ⟨(s, d) :: r, by rw [h1]; simp, by simp [h2], fun f hf => ?_⟩
        rcases List.mem_cons.1 hf with rfl | hf
        · exact ⟨hs, by simp only; omega⟩
        · exact h3 f hf
theorem mkG_of {fs : List Fl} : ∀ {r acc : List Fl}, (∀ f ∈ r, lookF fs f.1 = some f.2 ∧ f.2.size ≤ 65536) → mkG fs acc (r.map Prod.fst) = (acc ++ r, 0)
  | [], acc, _ => by simp [mkG]
  | f :: r, acc, h => by
    obtain ⟨h1, h2⟩ := h f (by simp)
    rw [List.map_cons, mkG_next h1 (by omega), mkG_of (fun g hg => h g (by simp [hg]))]
    simp
theorem lookF_app : ∀ {fs gs : List Fl} {s d : ByteArray}, lookF fs s = some d → lookF (fs ++ gs) s = some d
  | [], _, _, _, h => by cases h
  | r :: fs, gs, s, d, h => by
    simp only [List.cons_append, lookF] at h ⊢
    by_cases e : r.1 = s
    · rw [if_pos e] at h ⊢; exact h
    · rw [if_neg e] at h ⊢; exact lookF_app h
theorem lookF_self : ∀ {r : List Fl} {f : Fl}, (r.map Prod.fst).Nodup → f ∈ r → lookF r f.1 = some f.2
  | [], _, _, h => by cases h
  | g :: r, f, hn, h => by
    rw [List.map_cons, List.nodup_cons] at hn
    rcases List.mem_cons.1 h with rfl | h
    · simp [lookF]
    · have hne : ¬ g.1 = f.1 := fun e => hn.1 (by rw [e]; exact List.mem_map_of_mem h)
      simp only [lookF, if_neg hne]
      exact lookF_self hn.2 h
/-- what an answer without an error is made of -/
theorem MkR.zero {ts : List Tg} {lab : ByteArray} {kd : Int} {fs out : List Fl} (h : MkR ts lab kd fs out 0) : InpR ts lab kd (out.map Prod.fst) 0 ∧ ∀ f ∈ out, lookF fs f.1 = some f.2 ∧ f.2.size ≤ 65536 := by
  obtain ⟨l, e, h1, h2⟩ := h
  rcases h2 with ⟨a, _, b⟩ | ⟨rfl, h2⟩
  · exact absurd b.symm a
  · obtain ⟨r, e1, e2, e3⟩ := mkG_ok h2
    rw [List.nil_append] at e1
    subst e1
    rw [e2]
    exact ⟨h1, e3⟩
theorem MkR.of {ts : List Tg} {lab : ByteArray} {kd : Int} {fs out : List Fl} (h : InpR ts lab kd (out.map Prod.fst) 0) (ho : ∀ f ∈ out, lookF fs f.1 = some f.2 ∧ f.2.size ≤ 65536) : MkR ts lab kd fs out 0 :=
  ⟨_, 0, h, .inr ⟨rfl, by rw [mkG_of ho, List.nil_append]⟩⟩
theorem inp_asc {ts : List Tg} {lab : ByteArray} {kd : Int} {l : List ByteArray} (h : InpR ts lab kd l 0) : Asc l ∧ l ≠ [] := by
  rcases h with ⟨_, _, h⟩ | ⟨_, _, _, h⟩ | ⟨hv, t, hf, h⟩
  · cases h
  · cases h
  · rcases h with ⟨_, _, h⟩ | ⟨hb, _, has, hme⟩
    · cases h
    · refine ⟨has, fun e => ?_⟩
      subst e
      have hk : kd = 1 ∨ kd = 2 ∨ kd = 3 := by
        by_cases h1 : kd = 1
        · exact .inl h1
        · right
          by_cases h2 : kd = 2
          · exact .inl h2
          · by_cases h3 : kd = 3
            · exact .inr h3
            · exact absurd ⟨h1, .inl ⟨h2, h3⟩⟩ hb
      rcases hk with h1 | h1 | h1
      · exact absurd ((hme _).2 (.inl ⟨h1, .inl rfl⟩)) (by simp)
      · exact absurd ((hme _).2 (.inr (.inl ⟨h1, .inl rfl⟩))) (by simp)
      · exact absurd ((hme _).2 (.inr (.inr ⟨h1, rfl⟩))) (by simp)
/-- with other files behind them -/
theorem MkR.more {ts : List Tg} {lab : ByteArray} {kd : Int} {fs gs out : List Fl} (h : MkR ts lab kd fs out 0) : MkR ts lab kd (fs ++ gs) out 0 :=
  .of h.zero.1 fun f hf => ⟨lookF_app (h.zero.2 f hf).1, (h.zero.2 f hf).2⟩
/-- with its own files alone, data changed or not -/
theorem MkR.self {ts : List Tg} {lab : ByteArray} {kd : Int} {fs out gs : List Fl} (h : MkR ts lab kd fs out 0) (hn : gs.map Prod.fst = out.map Prod.fst) (hs : ∀ f ∈ gs, f.2.size ≤ 65536) : MkR ts lab kd gs gs 0 := by
  have h0 := h.zero.1
  refine .of (by rw [hn]; exact h0) fun f hf => ⟨lookF_self (by rw [hn]; exact (inp_asc h0).1.nodup) hf, hs f hf⟩
theorem set_names {out : List Fl} {k : Nat} {f : Fl} {d : ByteArray} (h : out[k]? = some f) : (out.set k (f.1, d)).map Prod.fst = out.map Prod.fst := by
  rw [List.map_set]
  apply List.ext_getElem?
  intro i
  rw [List.getElem?_set]
  by_cases e : k = i
  · subst e
    rw [if_pos rfl]
    have := (List.getElem?_eq_some_iff.1 h).1
    simp [this]
    rw [(List.getElem?_eq_some_iff.1 h).2]
  · rw [if_neg e]
theorem chkI_of : ∀ {p : Option ByteArray} {is : List Ipt}, (∀ f ∈ is, fnB f.1 = true) → (∀ f, is.head? = some f → okP p f.1 = true) → Asc (is.map Prod.fst) → chkI p is = 0
  | _, [], _, _, _ => rfl
  | p, f :: r, h1, h2, h3 => by
    rw [chkI, h1 f (by simp), h2 f rfl, if_neg (by decide), if_neg (by decide)]
    rw [List.map_cons] at h3
    have h4 := List.pairwise_cons.1 h3
    refine chkI_of (fun g hg => h1 g (by simp [hg])) (fun g hg => ?_) h4.2
    show less f.1 g.1 = true
    exact h4.1 g.1 (List.mem_map_of_mem (List.mem_of_mem_head? hg))
theorem inp_named {ts : List Tg} {lab : ByteArray} {kd : Int} {l : List ByteArray} (h : InpR ts lab kd l 0) : (kd = 1 ∨ kd = 2 ∨ kd = 3) ∧ labB lab = true ∧ ∀ x ∈ l, fnB x = true := by
  rcases h with ⟨_, _, h⟩ | ⟨_, _, _, h⟩ | ⟨hv, t, hf, h⟩
  · cases h
  · cases h
  · rcases h with ⟨_, _, h⟩ | ⟨hb, _, has, hme⟩
    · cases h
    · have hto := hv.all t (findT_lab hf).2
      have hlab : labB lab = true := by rw [← (findT_lab hf).1]; exact hto.lab
      have hlb : ∀ {d : ByteArray}, isT ts d = true → labB d = true := fun {d} hd => by
        obtain ⟨x, hx, rfl⟩ := List.mem_map.1 ((isT_iff ts d).1 hd)
        exact (hv.all x hx).lab
      have named : ∀ {p r : ByteArray}, p ∈ fwS → labB r = true → fnB (p ++ r) = true := fun {p r} hp hr => by
        rw [fnB_begin (r := r) hp (by unfold bl; simp)]; exact hr
      refine ⟨?_, hlab, fun x hx => ?_⟩
      · by_cases h1 : kd = 1
        · exact .inl h1
        · right
          by_cases h2 : kd = 2
          · exact .inl h2
          · by_cases h3 : kd = 3
            · exact .inr h3
            · exact absurd ⟨h1, .inl ⟨h2, h3⟩⟩ hb
      · rcases (hme x).1 hx with ⟨_, h | ⟨d, hd, h⟩⟩ | ⟨_, h | ⟨d, hd, h⟩⟩ | ⟨_, h⟩
        · rw [h]; exact named (by simp [fwS, sourceW]) hlab
        · rw [h]; exact named (by simp [fwS, ifaceW]) (hlb (kindOf_isT (hto.dep d hd)))
        · rw [h]; exact named (by simp [fwS, codeW]) hlab
        · rw [h]; exact named (by simp [fwS, codeW]) (hlb (rch_isT hd))
        · rw [h]; exact named (by simp [fwS, programW]) hlab
/-- an action that is made is valid -/
theorem mk_chk {ts : List Tg} {lab : ByteArray} {kd : Int} {out : List Fl} (h : InpR ts lab kd (out.map Prod.fst) 0) (hl : out.length ≤ 300) : chkA kd lab (out.map ipF) = 0 := by
  obtain ⟨h1, h2, h3⟩ := inp_named h
  have hm : (out.map ipF).map Prod.fst = out.map Prod.fst := by simp [ipF, Function.comp_def]
  unfold chkA
  rw [if_neg (not_not_intro h1), if_neg (by rw [h2]; decide), if_neg (by simp; omega)]
  refine chkI_of (fun f hf => h3 f.1 (by rw [← hm]; exact List.mem_map_of_mem hf)) (fun _ _ => rfl) (by rw [hm]; exact (inp_asc h).1)
end Go.Proofs.YtiphbincnnppdaaDoor

namespace Go.Proofs.YtiphbincnnppdaaDoor
open Go.RowKit

section
variable {P : Program} {w : World} {base size n c : Nat} {e : TypeId} {A : Option Addr} {xs : List Value}
theorem step_append_apd {ops : Array Oper} {o : Oper} {a : Act} {K : Act → World → Prop} {Q : Exit → Act → World → Prop} {E : Prop} (hgd : o.guard = none) (s x : Operand) (t : TypeId)
    (ho : o.op = .call { callee := .builtin .append, args := #[s, x], argTypes := #[t, t] })
    (base : Nat) (e : TypeId) (i : TypeInfo) (z : Value) (size bytes : Nat) (ht : P.underlying t = some (.slice e)) (hi : P.info? e = some i) (hz : i.zero = some z)
    (hsize : i.size = size) (hby : i.bytes = bytes) (hzs : z.cells.size = size) (hsz : 0 < size)
    (A : Option Addr) (n c : Nat) (xs : List Value) (hs : a.eval s = .slice A n c) (hown : Apd w base e size A n c xs)
    (B : Nat) (A' : Option Addr) (m c' : Nat) (ys : List Value) (hx : a.eval x = .slice A' m c') (hsl : Sl w B size A' m ys) (h1 : ∀ u ∈ ys, u.oneCell' = true)
    (h63 : n + m ≤ maxLen) (hbytes : (n + m) * bytes ≤ 140737488355328) (hbase : base ≤ w.heap.size)
    (h : ∀ A2 c2 w', Apd w' base e size A2 (n + m) c2 (xs ++ ys) → Below base w w' → n + m ≤ c2 → c2 ≤ maxLen → K (a.put o.dst (.slice A2 (n + m) c2)) w') :
    if Region.wanted o (yielded ops a.tmps) = true then Oper.wp P o a w K Q else E := by
  have hw : Region.wanted o (yielded ops a.tmps) = true := by simp [Region.wanted, hgd]
  rw [if_pos hw]
  obtain ⟨A2, c2, w', hr, ho', hg, hc1, hc2, _⟩ := run_append_apd (P := P) t o.type i z bytes ht hi hz hsize hby hzs hsz hown (c' := c') hsl h1 h63 hbytes hbase
  unfold Oper.wp
  simp [execOp, ho, resolve, invoke, builtin, hs, hx, hr, Result.andThen]
  exact h A2 c2 w' ho' hg hc1 hc2
/-- the same, onto a slice that is empty and has no capacity -/
theorem step_append_emp {ops : Array Oper} {o : Oper} {a : Act} {K : Act → World → Prop} {Q : Exit → Act → World → Prop} {E : Prop} (hgd : o.guard = none) (s x : Operand) (t : TypeId)
    (ho : o.op = .call { callee := .builtin .append, args := #[s, x], argTypes := #[t, t] })
    (base : Nat) (e : TypeId) (i : TypeInfo) (z : Value) (size bytes : Nat) (ht : P.underlying t = some (.slice e)) (hi : P.info? e = some i) (hz : i.zero = some z)
    (hsize : i.size = size) (hby : i.bytes = bytes) (hzs : z.cells.size = size) (hsz : 0 < size)
    (A : Option Addr) (hs : a.eval s = .slice A 0 0)
    (B : Nat) (A' : Option Addr) (m c' : Nat) (ys : List Value) (hx : a.eval x = .slice A' m c') (hsl : Sl w B size A' m ys) (h1 : ∀ u ∈ ys, u.oneCell' = true)
    (h63 : m ≤ maxLen) (hbytes : m * bytes ≤ 140737488355328) (hbase : base ≤ w.heap.size)
    (h : ∀ A2 c2 w', Apd w' base e size A2 m c2 ys → Below w.heap.size w w' → m ≤ c2 → c2 ≤ maxLen → K (a.put o.dst (.slice A2 m c2)) w') :
    if Region.wanted o (yielded ops a.tmps) = true then Oper.wp P o a w K Q else E := by
  have hw : Region.wanted o (yielded ops a.tmps) = true := by simp [Region.wanted, hgd]
  rw [if_pos hw]
  obtain ⟨A2, c2, w', hr, ho', hg, hc1, hc2⟩ := run_append_empty (P := P) (base := base) t o.type i z bytes ht hi hz hsize hby hzs hsz (c' := c') hsl h1 h63 hbytes hbase A
  unfold Oper.wp
  simp [execOp, ho, resolve, invoke, builtin, hs, hx, hr, Result.andThen]
  exact h A2 c2 w' ho' hg hc1 hc2
end
end Go.Proofs.YtiphbincnnppdaaDoor

namespace Go.Proofs.YtiphbincnnppdaaDoor
open Go.RowKit Go.Maps

theorem res_cellMk {fn : Func} {c i : Tmp} (h : fn.results = #[.cell c 46, .tmp i]) {w : World} {a : Array Value} {b : Nat} {k l x y v : Value} (ha : a[c]?.getD undef = .pointer (some ⟨b, 0, none⟩)) (hk : Bk w b 46 #[k, l, x, y]) (hv : a[i]?.getD undef = v) :
    (results fn a).run Tryd.prog w = .ok (.tuple #[.agg #[k, l, x, y], v]) w := by
  have h0 := hk.cell 0; have h1 := hk.cell 1; have h2 := hk.cell 2; have h3 := hk.cell 3
  simp at h0 h1 h2 h3
  simp [results, h, ha, hv, go_sem, h0, h1, h2, h3]
theorem Bk.set4 {w : World} {b : Nat} {t : TypeId} {x y z u : Value} (h : Bk w b t #[x, y, z, u]) (x' y' z' u' : Value) : Bk ((((w.setCell ⟨b, 0, none⟩ x').setCell ⟨b, 1, none⟩ y').setCell ⟨b, 2, none⟩ z').setCell ⟨b, 3, none⟩ u') b t #[x', y', z', u'] := by
  have := (((h.set 0 x').set 1 y').set 2 z').set 3 u'
  simpa using this
theorem below_set4 {B b : Nat} {w w' : World} (h : Below B w w') (hb : B ≤ b) (x y z u : Value) : Below B w ((((w'.setCell ⟨b, 0, none⟩ x).setCell ⟨b, 1, none⟩ y).setCell ⟨b, 2, none⟩ z).setCell ⟨b, 3, none⟩ u) :=
  (((h.setCell (p := ⟨b, 0, none⟩) hb x).setCell (p := ⟨b, 1, none⟩) hb y).setCell (p := ⟨b, 2, none⟩) hb z).setCell (p := ⟨b, 3, none⟩) hb u
theorem set_size' (w : World) (a : Addr) (u : Value) : (w.setCell a u).heap.size = w.heap.size := by simp [World.setCell]
theorem Sl.set4 {w : World} {B size n : Nat} {A : Option Addr} {xs : List Value} {b : Nat} (h : Sl w B size A n xs) (x y z u : Value) (hk : ∀ q, A = some q → q.block ≠ b) : Sl ((((w.setCell ⟨b, 0, none⟩ x).setCell ⟨b, 1, none⟩ y).setCell ⟨b, 2, none⟩ z).setCell ⟨b, 3, none⟩ u) B size A n xs := by
  refine ⟨h.1, fun hn => ?_⟩
  obtain ⟨b', off, rfl, hb', hc⟩ := h.2 hn
  have hne : b' ≠ b := hk _ rfl
  refine ⟨b', off, rfl, hb', fun j v hv => ?_⟩
  rw [← hc j v hv]
  exact World.cell?_of_block ((((Below.heap_setCell _ _ _ b' hne).trans (Below.heap_setCell _ _ _ b' hne)).trans (Below.heap_setCell _ _ _ b' hne)).trans (Below.heap_setCell _ _ _ b' hne))
theorem infoIpt : (Tryd.prog.info? 56).map (fun i => (i.zero, i.size, i.bytes)) = some (some (.agg #[.string ⟨#[]⟩, .int .u64 0, .int .u64 0]), 3, 32) := by kernel_rfl
theorem infoFil : (Tryd.prog.info? 51).map (fun i => (i.zero, i.size, i.bytes)) = some (some (.agg #[.string ⟨#[]⟩, .string ⟨#[]⟩]), 2, 32) := by kernel_rfl
theorem oneCells_ip (s : ByteArray) (q : Dig) : ∀ u ∈ flat ipC [(s, q)], u.oneCell' = true := by
  intro u hu
  simp [flat, ipC] at hu
  rcases hu with rfl | rfl | rfl <;> rfl
theorem oneCells_fi (s d : ByteArray) : ∀ u ∈ flat flC [(s, d)], u.oneCell' = true := by
  intro u hu
  simp [flat, flC] at hu
  rcases hu with rfl | rfl <;> rfl

section
variable {P : Program} {w : World}
theorem step_append_apdO {ops : Array Oper} {o : Oper} {a : Act} {K : Act → World → Prop} {Q : Exit → Act → World → Prop} {E : Prop} (hgd : o.guard = none) (s x : Operand) (t : TypeId)
    (ho : o.op = .call { callee := .builtin .append, args := #[s, x], argTypes := #[t, t] })
    (base : Nat) (e : TypeId) (i : TypeInfo) (z : Value) (size bytes : Nat) (ht : P.underlying t = some (.slice e)) (hi : P.info? e = some i) (hz : i.zero = some z)
    (hsize : i.size = size) (hby : i.bytes = bytes) (hzs : z.cells.size = size) (hsz : 0 < size)
    (A : Option Addr) (n c : Nat) (xs : List Value) (hs : a.eval s = .slice A n c) (hown : Apd w base e size A n c xs)
    (B : Nat) (A' : Option Addr) (m c' : Nat) (ys : List Value) (hx : a.eval x = .slice A' m c') (hsl : Sl w B size A' m ys) (h1 : ∀ u ∈ ys, u.oneCell' = true)
    (h63 : n + m ≤ maxLen) (hbytes : (n + m) * bytes ≤ 140737488355328) (hbase : base ≤ w.heap.size)
    (h : ∀ A2 c2 w', Apd w' base e size A2 (n + m) c2 (xs ++ ys) → Below base w w' → n + m ≤ c2 → c2 ≤ maxLen → OthersKept e w w' → K (a.put o.dst (.slice A2 (n + m) c2)) w') :
    if Region.wanted o (yielded ops a.tmps) = true then Oper.wp P o a w K Q else E := by
  have hw : Region.wanted o (yielded ops a.tmps) = true := by simp [Region.wanted, hgd]
  rw [if_pos hw]
  obtain ⟨A2, c2, w', hr, ho', hg, hc1, hc2, hok⟩ := run_append_apd (P := P) t o.type i z bytes ht hi hz hsize hby hzs hsz hown (c' := c') hsl h1 h63 hbytes hbase
  unfold Oper.wp
  simp [execOp, ho, resolve, invoke, builtin, hs, hx, hr, Result.andThen]
  exact h A2 c2 w' ho' hg hc1 hc2 hok
end
theorem Apd.others {w w' : World} {base size n c : Nat} {e e2 : TypeId} {A : Option Addr} {xs : List Value} (h : Apd w base e size A n c xs) (hk : OthersKept e2 w w') (hne : e ≠ e2) : Apd w' base e size A n c xs := by
  rcases h with h | h
  · exact .inl (hk _ _ _ _ _ _ hne h)
  · exact .inr h
theorem inp_small {ts : List Tg} {lab : ByteArray} {kd : Int} {l : List ByteArray} (h : InpR ts lab kd l 0) : l.length ≤ 101 ∧ ∀ x ∈ l, x.size ≤ 98 := by
  rcases h with ⟨_, _, h⟩ | ⟨_, _, _, h⟩ | ⟨hv, t, hf, h⟩
  · cases h
  · cases h
  · rcases h with ⟨_, _, h⟩ | ⟨_, _, has, hme⟩
    · cases h
    · have hto := hv.all t (findT_lab hf).2
      have h90 : lab.size ≤ 90 := vld_size hv (by unfold isT; rw [hf]; rfl)
      have hsz : ∀ (p r : ByteArray), (p ++ r).size = p.size + r.size := fun p r => by simp
      have s1 : sourceW.size = 7 := rfl
      have s2 : ifaceW.size = 6 := rfl
      have s3 : codeW.size = 5 := rfl
      have s4 : programW.size = 8 := rfl
      constructor
      · have hu : ∀ u : List ByteArray, (∀ x, InpMem ts t lab kd x → x ∈ u) → l.length ≤ u.length := fun u hu => nodup_len l u has.nodup (fun x hx => hu x ((hme x).1 hx))
        by_cases k1 : kd = 1
        · have h1 := hu ((sourceW ++ lab) :: t.deps.map (ifaceW ++ ·)) (fun x hx => by
            rcases hx with ⟨_, h | ⟨d, hd, h⟩⟩ | ⟨h, _⟩ | ⟨h, _⟩
            · rw [h]; simp
            · rw [h]; exact List.mem_cons_of_mem _ (List.mem_map_of_mem (f := (ifaceW ++ ·)) hd)
            · omega
            · omega)
          have h2 := hto.few
          simp at h1; omega
        · by_cases k2 : kd = 2
          · have h1 := hu ((codeW ++ lab) :: (ts.map Tg.lab).map (codeW ++ ·)) (fun x hx => by
              rcases hx with ⟨h, _⟩ | ⟨_, h | ⟨d, hd, h⟩⟩ | ⟨h, _⟩
              · omega
              · rw [h]; simp
              · rw [h]; exact List.mem_cons_of_mem _ (List.mem_map_of_mem (f := (codeW ++ ·)) ((isT_iff ts d).1 (rch_isT hd)))
              · omega)
            have h2 := hv.few
            simp at h1; omega
          · have h1 := hu [programW ++ lab] (fun x hx => by
              rcases hx with ⟨h, _⟩ | ⟨h, _⟩ | ⟨_, h⟩
              · omega
              · omega
              · rw [h]; simp)
            simp at h1; omega
      · intro x hx
        rcases (hme x).1 hx with ⟨_, h | ⟨d, hd, h⟩⟩ | ⟨_, h | ⟨d, hd, h⟩⟩ | ⟨_, h⟩
        · rw [h, hsz]; omega
        · have := vld_size hv (kindOf_isT (hto.dep d hd))
          rw [h, hsz]; omega
        · rw [h, hsz]; omega
        · have := vld_size hv (rch_isT hd)
          rw [h, hsz]; omega
        · rw [h, hsz]; omega

set_option maxRecDepth 100000 in
set_option maxHeartbeats 16000000 in
theorem make_any (A : Option Addr) (n c B : Nat) (ts : List Tg) (lab : ByteArray) (kd : Int) (fA : Option Addr) (fn fc : Nat) (fs : List Fl) (w : World) (h0 : Sl w B 4 A n (flat tgC ts)) (hok : ∀ t ∈ ts, TgOk w B t) (hB : B ≤ w.heap.size) (hnc : n ≤ c) (hcm : c ≤ maxLen) (hls : lab.size ≤ maxLen)
    (hf : Sl w B 2 fA fn (flat flC fs)) (hfn : fn ≤ 1000) (hfs : ∀ f ∈ fs, f.1.size ≤ maxLen ∧ f.2.size ≤ maxLen) :
    Calls Tryd.prog 17 #[.agg #[.slice A n c], .string lab, .int .i64 kd, .slice fA fn fc] w (MkEnd ts lab kd fs w) := by
  have HFL := Lib.hid (hf.len flC_len (by omega))
  have H0 := Lib.hid h0; have HOK := Lib.hid hok; have HF := Lib.hid hf; have HFS := Lib.hid hfs
  clear h0 hok hf hfs
  have hmm := @run_makeMap Tryd.prog
  obtain ⟨W0, hW0⟩ : ∃ W0, (w.alloc (.cells #[.slice A n c] 24)).alloc (.cells #[.int .i64 0, .string ⟨#[]⟩, .slice none 0 0, .slice none 0 0] 46) = W0 := ⟨_, rfl⟩
  have HB0 : Hid (Below w.heap.size w W0) := by rw [← hW0]; exact ((Below.refl _ w).alloc (Nat.le_refl _) _).alloc (by simp) _
  have zW0 : W0.heap.size = w.heap.size + 2 := by rw [← hW0]; simp
  have HG : Hid (Bk W0 w.heap.size 24 #[.slice A n c]) := by rw [← hW0]; exact (Bk.new w _ _).alloc _
  have HT : Hid (Bk W0 (w.heap.size + 1) 46 #[.int .i64 0, .string ⟨#[]⟩, .slice none 0 0, .slice none 0 0]) := by
    rw [← hW0]
    have := Bk.new (w.alloc (.cells #[.slice A n c] 24)) 46 #[.int .i64 0, .string ⟨#[]⟩, .slice none 0 0, .slice none 0 0]
    rw [World.size_alloc] at this
    exact this
  have g0 := HG.out.cell 0
  simp at g0
  have HIN := Lib.hid (inputs_any A n c B ts lab kd W0 (H0.out.below HB0.out hB) (fun t ht => (HOK.out t ht).below HB0.out hB) (by omega) hnc hcm hls)
  go_enter Tryd.func17, Tryd.ntmps17
  go_wp2_with fail
  refine HIN.out.mono ?_
  rintro e w1 ⟨nA, nn, nc, l, er, rfl, hs1, hn1, hc1, hb1, hr1⟩
  have HB1 : Hid (Below w.heap.size w w1) := HB0.out.trans (hb1.mono (by omega))
  have hz1 := hb1.size
  have HT1 := Lib.hid (HT.out.below hb1 (by omega))
  have HS1 := Lib.hid hs1; have HR1 := Lib.hid hr1
  have HNL : Hid (l.length = nn) := by have := hs1.1; rw [strs_len] at this; show _ = _; omega
  have hnn : nn ≤ 9223372036854775807 := by unfold maxLen at hc1; omega
  clear hs1 hr1 hb1 g0 HIN hW0 HG HT HB0
  by_cases her : er = 0
  case neg =>
    have p1 : (er != 0) = true := by rw [bne_iff_ne]; exact her
    have HM : Hid (MkR ts lab kd fs [] er) := ⟨l, er, HR1.out, .inl ⟨her, rfl, rfl⟩⟩
    have HER := Lib.hid her
    have f0 := HT1.out.free 0; have f1 := HT1.out.free 1; have f2 := HT1.out.free 2; have f3 := HT1.out.free 3
    have c0 := HT1.out.cell 0; have c1 := HT1.out.cell 1; have c2 := HT1.out.cell 2; have c3 := HT1.out.cell 3
    simp at c0 c1 c2 c3
    clear her
    go_wp2_with fail
    exact bodyPost_ret (res_cellMk Tryd.results17 rfl (HT1.out.set4 _ _ _ _) rfl) rfl (MkEnd.none_ HM.out HER.out (below_set4 HB1.out (by omega) _ _ _ _))
  subst her
  have HL100 : Hid (l.length ≤ 101) := (inp_small HR1.out).1
  obtain ⟨W2, hW2⟩ : ∃ W2, w1.alloc (.map #[] 0) = W2 := ⟨_, rfl⟩
  have HM2 : Hid (Rm W2 Tryd.prog 9 w1.heap.size 0 (filG (fs.take 0))) := by rw [← hW2]; exact Rm.made w1 Tryd.prog 9
  have HB2 : Hid (Below w1.heap.size w1 W2) := by rw [← hW2]; exact (Below.refl _ w1).alloc (Nat.le_refl _) _
  have zW2 : W2.heap.size = w1.heap.size + 1 := by rw [← hW2]; simp
  go_wp2_with fail
  clear hW2
  go_loopw [36] (fun q wr => ∃ k : Nat, k ≤ fn ∧ q = .int .i64 k ∧ Hid (Rm wr Tryd.prog 9 w1.heap.size k (filG (fs.take k))) ∧ Hid (Below w1.heap.size w1 wr) ∧ w1.heap.size < wr.heap.size) (fun q _ => fn - (intOf q).toNat)
  case atStart => exact ⟨0, Nat.zero_le _, rfl, HM2.out, HB2.out, by omega⟩
  case round =>
    obtain ⟨k, hk, rfl, hM, hBel, hwz⟩ := hrel
    by_cases hlt : k < fn
    · obtain ⟨b, off, f, rfl, hbB, hfk, y0, y1⟩ := ((HF.out.below HB1.out hB).below hBel.out (by omega)).fl hlt
      have HTK := Lib.hid (take_snoc hfk)
      have HFZ := Lib.hid (HFS.out f (List.mem_of_getElem? hfk))
      have hlz : (k : Int) < (fn : Int) := by omega
      have hlk := (hM.out.alloc (.cells #[.string f.1, .string f.2] 51)).look_ok Tryd.underlying9 Tryd.underlying80 (Tryd.zeroValue9 _) HFZ.out.1
      have HK0 := Lib.hid (hM.out.alloc (.cells #[.string f.1, .string f.2] 51))
      have hk0 : Bk (wr.alloc (.cells #[.string f.1, .string f.2] 51)) wr.heap.size 51 #[.string f.1, .string f.2] := Bk.new wr _ _
      have u0 := hk0.cell 0; have u1 := hk0.cell 1
      simp at u0 u1
      have HB3 : Hid (Below w1.heap.size w1 (wr.alloc (.cells #[.string f.1, .string f.2] 51))) := hBel.out.alloc hBel.out.size _
      rw [filG_some] at hlk
      clear hfk hk0
      cases hs : (lookF (fs.take k) f.1).isSome with
      | true =>
        have HST : Hid (filG (fs.take (k + 1)) = filG (fs.take k)) := by show _ = _; rw [HTK.out]; exact filG_skip hs
        obtain ⟨x, hx⟩ : ∃ x, lookF (fs.take k) f.1 = some x := Option.isSome_iff_exists.1 hs
        have hgx : filG (fs.take k) f.1 = some (.string x) := by unfold filG; rw [hx]; rfl
        rw [hgx, hs] at hlk
        simp only [Option.getD_some] at hlk
        clear hx hgx hs
        go_wp2_with fail
        go_roundw
        case rel => exact ⟨k + 1, by omega, by go_num, by show Rm _ _ _ _ _ _; rw [HST.out]; exact HK0.out.more (by omega), HB3.out, by simp; omega⟩
        case measure => simp [intOf]; omega
      | false =>
        have HST : Hid (filG (fs.take (k + 1)) = upd (filG (fs.take k)) f.1 (.string f.2)) := by show _ = _; rw [HTK.out]; exact filG_put hs
        have hgx : filG (fs.take k) f.1 = none := by
          unfold filG
          cases hx : lookF (fs.take k) f.1 with
          | none => rfl
          | some x => rw [hx] at hs; cases hs
        rw [hgx, hs] at hlk
        simp only [Option.getD_none] at hlk
        clear hgx hs
        go_wp2_with (at_mapUpdate; refine halt_ ?_)
        refine unhalt ?_
        refine wpList_put_rm rfl _ _ _ 80 rfl 9 9 Tryd.underlying9 Tryd.underlying80 w1.heap.size k _ rfl HK0.out (by unfold maxLen; omega) f.1 HFZ.out.1 _ rfl rfl ?_
        intro w3 hM3 hg3
        have HM3 := Lib.hid hM3
        have HB4 : Hid (Below w1.heap.size w1 w3) := HB3.out.grown hg3 HB3.out.size (fun k e => by cases e; omega)
        have hz3 : w1.heap.size < w3.heap.size := by have := hg3.size; simp at this; omega
        clear hM3 hg3
        go_wp2_with fail
        go_roundw
        case rel => exact ⟨k + 1, by omega, by go_num, by show Rm _ _ _ _ _ _; rw [HST.out]; exact HM3.out, HB4.out, hz3⟩
        case measure => simp [intOf]; omega
    · have hlz : ¬ (k : Int) < (fn : Int) := by omega
      obtain rfl : fn = k := by omega
      have HMF : Hid (Rm wr Tryd.prog 9 w1.heap.size fn (filG fs)) := by
        have := hM.out; rwa [List.take_of_length_le (by rw [HFL.out]; exact Nat.le_refl _)] at this
      obtain ⟨wm, hwm⟩ : ∃ wm, wm = wr := ⟨_, rfl⟩
      subst hwm
      have HT2 := Lib.hid (HT1.out.below hBel.out (by omega))
      have HS2 := Lib.hid (HS1.out.below hBel.out (Nat.le_refl _))
      obtain ⟨W5, hW5⟩ : ∃ W5, wm.alloc (.cells #[.int .i64 kd, .string lab, .slice none 0 0, .slice none 0 0] 46) = W5 := ⟨_, rfl⟩
      have HY5 : Hid (Bk W5 wm.heap.size 46 #[.int .i64 kd, .string lab, .slice none 0 0, .slice none 0 0]) := by rw [← hW5]; exact Bk.new wm _ _
      have HB5 : Hid (Below wm.heap.size wm W5) := by rw [← hW5]; exact (Below.refl _ wm).alloc (Nat.le_refl _) _
      have zW5 : W5.heap.size = wm.heap.size + 1 := by rw [← hW5]; simp
      obtain ⟨i0, hi, hzi0, hzi1, hzi2⟩ := info_parts infoIpt
      have Hi := Lib.hid hi; have Hz0 := Lib.hid hzi0; have Hz1 := Lib.hid hzi1; have Hz2 := Lib.hid hzi2
      clear hi hzi0 hzi1 hzi2
      obtain ⟨i1, hj, hzj0, hzj1, hzj2⟩ := info_parts infoFil
      have Hj := Lib.hid hj; have Hy0 := Lib.hid hzj0; have Hy1 := Lib.hid hzj1; have Hy2 := Lib.hid hzj2
      clear hj hzj0 hzj1 hzj2
      have HW5 := Lib.hid hW5
      clear hW5
      go_wp2_with fail
      rw [HW5.out]
      have HSB : Hid (Sl wm wm.heap.size 1 nA nn (strs l)) := HS2.out.more (by omega)
      go_loopw [61] (fun q wr => ∃ (k : Nat) (A1 : Option Addr) (c1 : Nat) (A2 : Option Addr) (c2 : Nat) (acc : List Fl), k ≤ nn ∧ q = .int .i64 k ∧ k ≤ c1 ∧ c1 ≤ maxLen ∧ k ≤ c2 ∧ c2 ≤ maxLen ∧ Hid (Bk wr wm.heap.size 46 #[.int .i64 kd, .string lab, .slice A1 k c1, .slice A2 k c2]) ∧
        Hid (Apd wr (wm.heap.size + 1) 56 3 A1 k c1 (flat ipC (acc.map ipF))) ∧ Hid (Apd wr (wm.heap.size + 1) 51 2 A2 k c2 (flat flC acc)) ∧ Hid (mkG fs [] l = mkG fs acc (l.drop k)) ∧ Hid (Below wm.heap.size wm wr) ∧ wm.heap.size + 1 ≤ wr.heap.size) (fun q _ => nn - (intOf q).toNat)
      case atStart => exact ⟨0, none, 0, none, 0, [], Nat.zero_le _, rfl, Nat.le_refl _, Nat.zero_le _, Nat.le_refl _, Nat.zero_le _, HY5.out, .inr ⟨rfl, rfl, rfl⟩, .inr ⟨rfl, rfl, rfl⟩, rfl, HB5.out, by omega⟩
      case round =>
        obtain ⟨k, A1, c1, A2, c2, acc, hk2, rfl, hk1, hkm, hk3, hkm2, hY, hA1, hA2, hG, hBl, hwz2⟩ := hrel
        have HBa : Hid (Below w1.heap.size w1 wr) := hBel.out.trans (hBl.out.mono (by omega))
        have HBb : Hid (Below w.heap.size w wr) := HB1.out.trans (HBa.out.mono (by omega))
        have HTr := Lib.hid (HT1.out.below HBa.out (by omega))
        by_cases hlt2 : k < nn
        · obtain ⟨b, off, s, rfl, hbB, hx, y0⟩ := (HSB.out.below hBl.out (Nat.le_refl _)).str_at hlt2
          have hkz : (k : Int) < (nn : Int) := by omega
          have hss : s.size ≤ maxLen := by
            have := (inp_small HR1.out).2 s (List.mem_of_getElem? hx)
            unfold maxLen; omega
          have hlk := (HMF.out.below hBl.out (by omega)).look_ok Tryd.underlying9 Tryd.underlying80 (Tryd.zeroValue9 _) hss
          rw [filG_some] at hlk
          have HDR := Lib.hid (drop_at hx)
          clear hx
          cases hs : lookF fs s with
          | none =>
            have hgx : filG fs s = none := by unfold filG; rw [hs]; rfl
            rw [hgx, hs] at hlk
            simp only [Option.getD_none, Option.isSome_none] at hlk
            have HM : Hid (MkR ts lab kd fs [] 8) := ⟨l, 0, HR1.out, .inr ⟨rfl, by rw [hG.out, HDR.out, mkG_none hs]⟩⟩
            have f0 := HTr.out.free 0; have f1 := HTr.out.free 1; have f2 := HTr.out.free 2; have f3 := HTr.out.free 3
            have d0 := HTr.out.cell 0; have d1 := HTr.out.cell 1; have d2 := HTr.out.cell 2; have d3 := HTr.out.cell 3
            simp at d0 d1 d2 d3
            clear hs hgx
            go_wp2_with fail
            exact bodyPost_ret (res_cellMk Tryd.results17 rfl (HTr.out.set4 _ _ _ _) rfl) rfl (MkEnd.none_ HM.out (by decide) (below_set4 HBb.out (by omega) _ _ _ _))
          | some d =>
            have hgx : filG fs s = some (.string d) := by unfold filG; rw [hs]; rfl
            rw [hgx, hs] at hlk
            simp only [Option.getD_some, Option.isSome_some] at hlk
            have HDS := Lib.hid (HFS.out _ (lookF_mem hs)).2
            have HLS := Lib.hid hs
            clear hs hgx
            by_cases hdl : 65536 < d.size
            · have hdz : (65536 : Int) < (d.size : Int) := by omega
              have HM : Hid (MkR ts lab kd fs [] 4) := ⟨l, 0, HR1.out, .inr ⟨rfl, by rw [hG.out, HDR.out, mkG_long HLS.out hdl]⟩⟩
              have f0 := HTr.out.free 0; have f1 := HTr.out.free 1; have f2 := HTr.out.free 2; have f3 := HTr.out.free 3
              have d0 := HTr.out.cell 0; have d1 := HTr.out.cell 1; have d2 := HTr.out.cell 2; have d3 := HTr.out.cell 3
              simp at d0 d1 d2 d3
              clear hdl
              go_wp2_with fail
              exact bodyPost_ret (res_cellMk Tryd.results17 rfl (HTr.out.set4 _ _ _ _) rfl) rfl (MkEnd.none_ HM.out (by decide) (below_set4 HBb.out (by omega) _ _ _ _))
            · have hdz : ¬ (65536 : Int) < (d.size : Int) := by omega
              have HG2 : Hid (mkG fs [] l = mkG fs (acc ++ [(s, d)]) (l.drop (k + 1))) := by show _ = _; rw [hG.out, HDR.out, mkG_next HLS.out hdl]
              have x2 := hY.out.cell 2; simp at x2
              have HOF := Lib.hid (of_any d wr.drew HDS.out)
              obtain ⟨q1, q2, hq⟩ : ∃ q1 q2, ofB (toL d) = (q1, q2) := ⟨_, _, rfl⟩
              have HIP : Hid (flat ipC ((acc ++ [(s, d)]).map ipF) = flat ipC (acc.map ipF) ++ flat ipC [(s, (q1, q2))]) := by
                show _ = _
                rw [List.map_append, flat_append]; simp [ipF, hq]
              have HOE : Hid (∀ e w', OfEnd d wr.drew e w' → e = .returned (.agg #[.int .u64 q1, .int .u64 q2]) ∧ Below wr.drew.heap.size wr.drew w') := fun e w' h => by
                unfold OfEnd at h; rw [hq] at h; exact h
              have hk101 : k ≤ 101 := by have := HL100.out; have := HNL.out; omega
              clear hdl hq
              go_wp2_with fail
              go_region_law
                (first
                  | (go_simp; go_at_call 37; refine HOF.out.mono ?_; rintro e w11 hw11; obtain ⟨rfl, hb11⟩ := HOE.out _ _ hw11; have P1 := Lib.hid (hY.out.drew.below hb11 (by show wm.heap.size < wr.heap.size; omega)); have PA1 : Hid (Apd w11 (wm.heap.size + 1) 56 3 A1 k c1 (flat ipC (acc.map ipF))) := Apd.below (w := wr.drew) hA1.out hb11; have PA2 : Hid (Apd w11 (wm.heap.size + 1) 51 2 A2 k c2 (flat flC acc)) := Apd.below (w := wr.drew) hA2.out hb11; have PB : Hid (Below wm.heap.size wm w11) := hBl.out.drew.trans (hb11.mono (by show wm.heap.size ≤ wr.heap.size; omega)); have hz11 := hb11.size; have HZ11 : Hid (wr.heap.size ≤ w11.heap.size) := hz11; have m2 := P1.out.cell 2; have m2a := (P1.out.alloc (.cells #[.string s, .int .u64 q1, .int .u64 q2] 56)).cell 2; simp at m2 m2a; clear hw11 hb11 hz11)
                  | (refine step_append_apdO (by rfl) (.tmp 80) (.tmp 85) 42 (by rfl) (wm.heap.size + 1) 56 i0 _ 3 32 Tryd.underlying42 Hi.out Hz0.out Hz1.out Hz2.out rfl (by decide) A1 k c1 (flat ipC (acc.map ipF)) (by rfl) (PA1.out.below ((Below.refl _ _).alloc (Nat.le_refl _) _)) _ (some ⟨w11.heap.size, 0, none⟩) 1 1 (flat ipC [(s, (q1, q2))]) (by rfl) (Sl.of_bk (Bk.new w11 _ _) rfl) (oneCells_ip _ _) (by unfold maxLen; omega) (by omega) (by have := HZ11.out; simp; omega) ?_
                     intro A5 c5 w12 a12 hb12 hn12 hm12 hok12
                     have Q1 := Lib.hid ((P1.out.alloc (.cells #[.string s, .int .u64 q1, .int .u64 q2] 56)).below hb12 (by omega))
                     have QA1 := Lib.hid a12
                     have QA2 : Hid (Apd w12 (wm.heap.size + 1) 51 2 A2 k c2 (flat flC acc)) := (PA2.out.below ((Below.refl _ w11).alloc (Nat.le_refl _) (.cells #[.string s, .int .u64 q1, .int .u64 q2] 56))).others hok12 (by decide)
                     have QB : Hid (Below wm.heap.size wm w12) := (PB.out.alloc PB.out.size _).trans (hb12.mono (by omega))
                     have HZ12 : Hid (w11.heap.size ≤ w12.heap.size) := by have := hb12.size; simp at this; show _ ≤ _; omega
                     have r2 := Q1.out.cell 2; simp at r2
                     have f2 := Q1.out.free 2
                     clear a12 hb12 hok12))
              all_goals
                obtain ⟨W13, hW13⟩ : ∃ W13, w12.setCell ⟨wm.heap.size, 2, none⟩ (.slice A5 (k + 1) c5) = W13 := ⟨_, rfl⟩
                have R1 : Hid (Bk W13 wm.heap.size 46 #[.int .i64 kd, .string lab, .slice A5 (k + 1) c5, .slice A2 k c2]) := by
                  rw [← hW13]; have := Q1.out.set 2 (.slice A5 (k + 1) c5); show Bk _ _ _ _; simpa using this
                have RA1 : Hid (Apd W13 (wm.heap.size + 1) 56 3 A5 (k + 1) c5 (flat ipC ((acc ++ [(s, d)]).map ipF))) := by
                  show Apd _ _ _ _ _ _ _ _; rw [HIP.out, ← hW13]; exact QA1.out.setCell (by simp) _
                have RA2 : Hid (Apd W13 (wm.heap.size + 1) 51 2 A2 k c2 (flat flC acc)) := by rw [← hW13]; exact QA2.out.setCell (by simp) _
                have RB : Hid (Below wm.heap.size wm W13) := by rw [← hW13]; exact QB.out.setCell (p := ⟨wm.heap.size, 2, none⟩) (Nat.le_refl _) _
                have hz13 : wm.heap.size + 1 ≤ W13.heap.size := by
                  have h1 := HZ11.out; have h2 := HZ12.out
                  rw [← hW13, set_size']; omega
                have t3 := R1.out.cell 3; simp at t3
                rw [hW13]
                clear hW13 r2 f2 m2 m2a x2 Q1 QA1 QA2 QB
                have hfl : ∀ q : List Fl, flat flC (q ++ [(s, d)]) = flat flC q ++ flat flC [(s, d)] := fun q => flat_append _ _
                have HFLA := Lib.hid (hfl acc)
                clear hfl
                go_wp2_with (at_builtin; refine halt_ ?_)
                refine unhalt ?_
                refine wpList_append_apd (base := wm.heap.size + 1) (size := 2) _ rfl (.tmp 90) (.tmp 94) 40 rfl 51 i1 _ 32 Tryd.underlying40 Hj.out Hy0.out Hy1.out Hy2.out rfl (by decide) A2 k c2 (flat flC acc) rfl ?own_1 (W13.heap.size + 1) _ 1 _ (flat flC [(s, d)]) rfl ?nw_1 (oneCells_fi s d) ?m1_1 ?m2_1 ?m3_1 ?_
                case own_1 => exact RA2.out.below ((Below.refl _ W13).alloc (Nat.le_refl _) _)
                case nw_1 =>
                  have := Sl.of_bk (n := 1) (size := 2) (Bk.new W13 51 #[.string s, .string d]) rfl
                  rw [World.size_alloc] at this; exact this
                case m1_1 => unfold maxLen; omega
                case m2_1 => omega
                case m3_1 => simp; omega
                intro A6 c6 w14 ho14 hb14 hn14 hm14 hok14
                have S1 : Hid (Bk w14 wm.heap.size 46 #[.int .i64 kd, .string lab, .slice A5 (k + 1) c5, .slice A2 k c2]) := (R1.out.alloc _).below hb14 (by omega)
                have SA1 : Hid (Apd w14 (wm.heap.size + 1) 56 3 A5 (k + 1) c5 (flat ipC ((acc ++ [(s, d)]).map ipF))) := (RA1.out.below ((Below.refl _ W13).alloc (Nat.le_refl _) (.cells #[.string s, .string d] 51))).others hok14 (by decide)
                have SA2 : Hid (Apd w14 (wm.heap.size + 1) 51 2 A6 (k + 1) c6 (flat flC (acc ++ [(s, d)]))) := by show Apd _ _ _ _ _ _ _ _; rw [HFLA.out]; exact ho14
                have SB : Hid (Below wm.heap.size wm w14) := (RB.out.alloc RB.out.size _).trans (hb14.mono (by omega))
                have hz14 := hb14.size
                rw [World.size_alloc] at hz14
                have t4 := S1.out.cell 3; simp at t4
                have f4 := S1.out.free 3
                clear ho14 hb14 hok14 t3
                go_wp2_with fail
                go_roundw
                case rel =>
                  refine ⟨k + 1, A5, c5, A6, c6, acc ++ [(s, d)], hlt2, by go_num, hn12, hm12, hn14, hm14, ?_, SA1.out.setCell (by simp) _, SA2.out.setCell (by simp) _, HG2.out, SB.out.setCell (p := ⟨wm.heap.size, 3, none⟩) (Nat.le_refl _) _, by rw [set_size']; omega⟩
                  have := S1.out.set 3 (.slice A6 (k + 1) c6); show Bk _ _ _ _; simpa using this
                case measure => simp [intOf]; omega
        · have hkz : ¬ (k : Int) < (nn : Int) := by omega
          obtain rfl : nn = k := by omega
          have HM : Hid (MkR ts lab kd fs acc 0) := ⟨l, 0, HR1.out, .inr ⟨rfl, by rw [hG.out, List.drop_of_length_le (by rw [HNL.out]; exact Nat.le_refl _)]; rfl⟩⟩
          have f0 := HTr.out.free 0; have f1 := HTr.out.free 1; have f2 := HTr.out.free 2; have f3 := HTr.out.free 3
          have d0 := HTr.out.cell 0; have d1 := HTr.out.cell 1; have d2 := HTr.out.cell 2; have d3 := HTr.out.cell 3
          have e0 := hY.out.cell 0; have e1 := hY.out.cell 1; have e2 := hY.out.cell 2; have e3 := hY.out.cell 3
          simp at d0 d1 d2 d3 e0 e1 e2 e3
          go_wp2_with fail
          refine bodyPost_ret (res_cellMk Tryd.results17 rfl (HTr.out.set4 _ _ _ _) rfl) rfl ?_
          exact ⟨kd, lab, A1, nn, c1, A2, nn, c2, acc, 0, rfl, ⟨(if_pos rfl).symm, (if_pos rfl).symm, ((((hA1.out.setCell (by show w.heap.size + 1 < _; omega) _).setCell (by show w.heap.size + 1 < _; omega) _).setCell (by show w.heap.size + 1 < _; omega) _).setCell (by show w.heap.size + 1 < _; omega) _).sl, ((((hA2.out.setCell (by show w.heap.size + 1 < _; omega) _).setCell (by show w.heap.size + 1 < _; omega) _).setCell (by show w.heap.size + 1 < _; omega) _).setCell (by show w.heap.size + 1 < _; omega) _).sl⟩, hk1, hkm, hk3, hkm2, HM.out, below_set4 HBb.out (by omega) _ _ _ _⟩
end Go.Proofs.YtiphbincnnppdaaDoor

namespace Go.Proofs.YtiphbincnnppdaaDoor
open Go.ChangeShapes Go.WideShapes Go.ChangeAt Go.RowKit Go.Joins Go.Deep

@[go_sem] theorem guardIp : Tryd.prog.eqGuardType Tryd.prog.depth 56 = false := by kernel_rfl
theorem stoodIp : Tryd.prog.stoodInHeld 56 = false := by kernel_rfl
@[go_sem high] theorem eqIp (s t : ByteArray) (a b c d : Int) (w : World) : (Op.equalIn 10000 56 (.agg #[.string s, .int .u64 a, .int .u64 b]) (.agg #[.string t, .int .u64 c, .int .u64 d])).run Tryd.prog w = .ok (s.toList == t.toList && (a == c && b == d)) w := by
  have hS : Tryd.prog.underlying 56 = some (.struct (Tryd.prog.fieldsOf 56)) := by kernel_rfl
  have a28 := Tryd.isAgg54
  have z28 := Tryd.sizeOf54
  have a9 := Tryd.isAgg9
  have u9 := Tryd.underlying9
  have e28 := fun w => eqDig0 9997 a b c d w
  rw [show (10000 : Nat) = 9999 + 1 from rfl, run_equalIn_agg w 9999 56 _ _ hS stoodIp]
  simp only [Program.fieldsOf, Tryd.underlying56]
  go_simp
  by_cases h1 : s.toList = t.toList <;> by_cases h2 : a = c <;> by_cases h3 : b = d <;> simp [h1, h2, h3]

abbrev Actn := Int × ByteArray × List Ipt
set_option maxRecDepth 100000 in
set_option maxHeartbeats 2000000 in
theorem sameA_any (k0 k1 : Int) (l0 l1 : ByteArray) (A0 A1 : Option Addr) (n0 c0 n1 c1 B : Nat) (rs qs : List Ipt) (w : World) (h0 : Sl w B 3 A0 n0 (flat ipC rs)) (h1 : Sl w B 3 A1 n1 (flat ipC qs)) (hB : B ≤ w.heap.size) (m0 : n0 ≤ maxLen) :
    Calls Tryd.prog 40 #[.agg #[.int .i64 k0, .string l0, .slice A0 n0 c0], .agg #[.int .i64 k1, .string l1, .slice A1 n1 c1]] w fun e w' => e = .returned (.bool (decide ((k0, l0, rs) = ((k1, l1, qs) : Actn)))) ∧ Below w.heap.size w w' := by
  unfold maxLen at m0
  have HL0 := Lib.hid (h0.len ipC_len (by omega))
  have HL1 := Lib.hid (h1.len ipC_len (by omega))
  obtain ⟨W, hW⟩ : ∃ W, (w.alloc (.cells #[.int .i64 k0, .string l0, .slice A0 n0 c0] 44)).alloc (.cells #[.int .i64 k1, .string l1, .slice A1 n1 c1] 44) = W := ⟨_, rfl⟩
  have HB : Hid (Below w.heap.size w W) := by rw [← hW]; exact ((Below.refl w.heap.size w).alloc (Nat.le_refl _) _).alloc (by simp) _
  have kk0 : Bk W w.heap.size 44 #[.int .i64 k0, .string l0, .slice A0 n0 c0] := by rw [← hW]; exact (Bk.new w _ _).alloc _
  have kk1 : Bk W (w.heap.size + 1) 44 #[.int .i64 k1, .string l1, .slice A1 n1 c1] := by
    rw [← hW]
    have := Bk.new (w.alloc (.cells #[.int .i64 k0, .string l0, .slice A0 n0 c0] 44)) 44 #[.int .i64 k1, .string l1, .slice A1 n1 c1]
    rw [World.size_alloc] at this
    exact this
  have u0 := kk0.cell 0; have u1 := kk0.cell 1; have u2 := kk0.cell 2
  have v0 := kk1.cell 0; have v1 := kk1.cell 1; have v2 := kk1.cell 2
  simp at u0 u1 u2 v0 v1 v2
  have H0 := Lib.hid (h0.below HB.out hB); have H1 := Lib.hid (h1.below HB.out hB); clear h0 h1 kk0 kk1
  have hM : Hid (decide ((k0, l0, rs) = ((k1, l1, qs) : Actn)) = true ↔ k0 = k1 ∧ l0 = l1 ∧ rs = qs) := by
    show _ ↔ _
    rw [decide_eq_true_iff]; simp only [Prod.mk.injEq]
  generalize decide ((k0, l0, rs) = ((k1, l1, qs) : Actn)) = mb at *
  have hs := str_dec l0 l1
  go_enter Tryd.func40, Tryd.ntmps40
  by_cases e1 : k0 = k1
  · have HE1 := Lib.hid e1
    have b1 : (k0 != k1) = false := by simp [e1]
    clear e1
    by_cases e2 : l0 = l1
    · have HE2 := Lib.hid e2
      rw [decide_eq_true e2] at hs
      clear e2
      by_cases hn : n0 = n1
      · have hni : (n0 : Int) = (n1 : Int) := by omega
        have hnb : ((n0 : Int) != (n1 : Int)) = false := by simp [hn]
        have HN := Lib.hid hn
        clear hni hn
        go_wp2
        go_loopw [5] (fun i wr => ∃ k nq : Nat, k ≤ n0 ∧ i = .int .i64 k ∧ wr = W.drewN nq ∧ Hid (rs.take k = qs.take k)) (fun i _ => n0 - (intOf i).toNat)
        case atStart => exact ⟨0, 0, Nat.zero_le _, rfl, rfl, rfl⟩
        case round =>
          obtain ⟨k, nq, hk, rfl, rfl, heq⟩ := hrel
          by_cases hlt : k < n0
          · have hlt1 : k < n1 := by have := HN.out; omega
            obtain ⟨b0, o0, r, rfl, _, hr, x0, x1, x2⟩ := H0.out.ip hlt
            obtain ⟨b1', o1, q, rfl, _, hq, y0, y1, y2⟩ := H1.out.ip hlt1
            have HR := Lib.hid hr; have HQ := Lib.hid hq; clear hr hq
            have hlz : (k : Int) < (n0 : Int) := by omega
            have hlz1 : (k : Int) < (n1 : Int) := by omega
            by_cases e : r = q
            · have t1 : (r.1.toList == q.1.toList && (r.2.1 == q.2.1 && r.2.2 == q.2.2)) = true := by rw [e]; simp
              have HE := Lib.hid e; clear e
              have hnx : Hid (rs.take (k + 1) = qs.take (k + 1)) := by
                show _ = _
                rw [take_snoc HR.out, take_snoc HQ.out, heq.out, HE.out]
              go_wp2
              go_quiet (fail)
              go_wp2
              go_roundw
              case rel => exact ⟨k + 1, _, by omega, by go_num, rfl, hnx⟩
              case measure => simp [intOf]; omega
            · have t1 : (r.1.toList == q.1.toList && (r.2.1 == q.2.1 && r.2.2 == q.2.2)) = false := by
                rw [Bool.eq_false_iff]; intro hh
                simp only [Bool.and_eq_true, beq_iff_eq, ByteArray.toList_eq] at hh
                apply e
                exact Prod.ext (data_inj hh.1) (Prod.ext hh.2.1 hh.2.2)
              have HE := Lib.hid e; clear e
              go_wp2
              go_quiet (fail)
              go_wp2
              go_ret
              refine ⟨ret_bool ?_, below_drewN (below_drewN HB.out _) _⟩
              symm
              rw [Bool.eq_false_iff]
              intro hh
              have := (hM.out.1 hh).2.2
              subst this
              exact HE.out (Option.some.inj (HR.out.symm.trans HQ.out))
          · have hall : Hid (mb = true) := by
              have := heq.out
              rw [List.take_of_length_le (by rw [HL0.out]; omega), List.take_of_length_le (by rw [HL1.out, ← HN.out]; omega)] at this
              exact hM.out.2 ⟨HE1.out, HE2.out, this⟩
            have hlz : ¬ (k : Int) < (n0 : Int) := by omega
            go_wp2
            go_ret
            exact ⟨ret_bool hall.out.symm, below_drewN HB.out _⟩
      · have hne : ((n0 : Int) != (n1 : Int)) = true := by rw [bne_iff_ne]; omega
        have HF : Hid (mb = false) := by
          show _ = _
          rw [Bool.eq_false_iff]; intro hh
          have := (hM.out.1 hh).2.2
          subst this
          exact hn (HL0.out.symm.trans HL1.out)
        clear hn
        go_wp2
        go_ret
        exact ⟨ret_bool HF.out.symm, HB.out⟩
    · rw [decide_eq_false e2] at hs
      have HF : Hid (mb = false) := by
        show _ = _
        rw [Bool.eq_false_iff]; intro hh
        exact e2 (hM.out.1 hh).2.1
      clear e2
      go_wp2
      go_ret
      exact ⟨ret_bool HF.out.symm, HB.out⟩
  · have b1 : (k0 != k1) = true := by rw [bne_iff_ne]; exact e1
    have HF : Hid (mb = false) := by
      show _ = _
      rw [Bool.eq_false_iff]; intro hh
      exact e1 (hM.out.1 hh).1
    clear e1
    go_wp2
    go_ret
    exact ⟨ret_bool HF.out.symm, HB.out⟩

theorem cellsIp : Tryd.prog.cellsOf 56 = 3 := by kernel_rfl
theorem cellsDg : Tryd.prog.cellsOf 54 = 2 := by kernel_rfl
theorem cellsU64 : Tryd.prog.cellsOf 52 = 1 := by kernel_rfl
theorem cellsAc : Tryd.prog.cellsOf 44 = 3 := by kernel_rfl
theorem cellsIps : Tryd.prog.cellsOf 42 = 1 := by kernel_rfl
section
variable {H : Type} {enc : TypeId × Value → H} {P : Program} {w : World} {base : Nat} {spare : Nat → Bool} {held : Bool} {fuel : Nat} {cs : List Value} {x : DataW H × List MemPlace}
theorem wf_u64 {n : Int} (h : (Lit.int .u64 n).wf = true) : 0 ≤ n ∧ n < 18446744073709551616 := by
  simp only [Lit.wf, Bool.and_eq_true, decide_eq_true_eq] at h
  have h1 : IntKind.u64.min = 0 := by decide
  have h2 : IntKind.u64.max = 18446744073709551615 := by decide
  rw [h1, h2] at h
  omega
theorem trod_digP {t e : TypeId} (ht : P.underlying t = some (.array 2 e)) (he : P.underlying e = some (.int .u64)) (hC : P.cellsOf t = 2) (hc : P.cellsOf e = 1)
    (h : DataW.trod enc P w base spare held fuel t cs = some x) : ∃ d : Dig, cs = [.int .u64 d.1, .int .u64 d.2] ∧ WfD d := by
  obtain ⟨xs, m, _, _, hlen, hxl, hf⟩ := DataW.trod_array ht h
  rw [hC] at hlen
  obtain ⟨c0, c1, rfl⟩ := len2 hlen
  obtain ⟨y0, y1, rfl⟩ := len2 hxl
  have h0 := hf 0 (by omega)
  have h1 := hf 1 (by omega)
  rw [hc] at h0 h1
  simp at h0 h1
  obtain ⟨a, ha, _, wa⟩ := DataW.trod_int he h0
  obtain ⟨b, hb, _, wb⟩ := DataW.trod_int he h1
  simp at ha hb
  exact ⟨(a, b), by rw [ha, hb], (wf_u64 wa).1, (wf_u64 wa).2, (wf_u64 wb).1, (wf_u64 wb).2⟩
theorem trod_ipP {t s d e : TypeId} {f0 f1 : Field} (ht : P.underlying t = some (.struct #[f0, f1])) (o0 : f0.offset = 0) (o1 : f1.offset = 1) (t0 : f0.type = s) (t1 : f1.type = d) (hs : P.underlying s = some .string) (hd : P.underlying d = some (.array 2 e)) (he : P.underlying e = some (.int .u64))
    (hC : P.cellsOf t = 3) (hcs : P.cellsOf s = 1) (hcd : P.cellsOf d = 2) (hc : P.cellsOf e = 1)
    (h : DataW.trod enc P w base spare held fuel t cs = some x) : ∃ r : Ipt, cs = ipC r ∧ r.1.size ≤ maxLen ∧ WfD r.2 := by
  obtain ⟨xs, m, _, _, hlen, hxl, hf⟩ := DataW.trod_struct ht h
  rw [hC] at hlen
  obtain ⟨c0, c1, c2, rfl⟩ := len3 hlen
  obtain ⟨y0, y1, rfl⟩ := len2 hxl
  have h0 := hf 0 f0 rfl
  have h1 := hf 1 f1 rfl
  rw [o0, t0, hcs] at h0
  rw [o1, t1, hcd] at h1
  simp at h0 h1
  obtain ⟨a, ha, _, hz⟩ := DataW.trod_string hs h0
  obtain ⟨dd, hb, hw⟩ := trod_digP hd he hcd hc h1
  simp at ha hb
  exact ⟨(a, dd), by rw [ha, hb.1, hb.2]; rfl, hz, hw⟩
theorem trod_acP {t i s l e d u : TypeId} {f0 f1 f2 g0 g1 : Field} (ht : P.underlying t = some (.struct #[f0, f1, f2])) (o0 : f0.offset = 0) (o1 : f1.offset = 1) (o2 : f2.offset = 2) (t0 : f0.type = i) (t1 : f1.type = s) (t2 : f2.type = l)
    (hi : P.underlying i = some (.int .i64)) (hs : P.underlying s = some .string) (hl : P.underlying l = some (.slice e)) (he : P.underlying e = some (.struct #[g0, g1])) (p0 : g0.offset = 0) (p1 : g1.offset = 1) (q0 : g0.type = s) (q1 : g1.type = d) (hd : P.underlying d = some (.array 2 u)) (hu : P.underlying u = some (.int .u64))
    (hC : P.cellsOf t = 3) (hci : P.cellsOf i = 1) (hcs : P.cellsOf s = 1) (hcl : P.cellsOf l = 1) (hce : P.cellsOf e = 3) (hcd : P.cellsOf d = 2) (hcu : P.cellsOf u = 1) (h : DataW.trod enc P w base spare held fuel t cs = some x) :
    ∃ k lab A n c fs, cs = [.int .i64 k, .string lab, .slice A n c] ∧ lab.size ≤ maxLen ∧ Sl w w.heap.size 3 A n (flat ipC fs) ∧ n ≤ c ∧ c ≤ maxLen ∧ ∀ f ∈ fs, f.1.size ≤ maxLen ∧ WfD f.2 := by
  obtain ⟨xs, m, _, _, hlen, hxl, hf⟩ := DataW.trod_struct ht h
  rw [hC] at hlen
  obtain ⟨c0, c1, c2, rfl⟩ := len3 hlen
  obtain ⟨y0, y1, y2, rfl⟩ := len3 hxl
  have h0 := hf 0 f0 rfl
  have h1 := hf 1 f1 rfl
  have h2 := hf 2 f2 rfl
  rw [o0, t0, hci] at h0
  rw [o1, t1, hcs] at h1
  rw [o2, t2, hcl] at h2
  simp at h0 h1 h2
  obtain ⟨a, ha, _⟩ := DataW.trod_int hi h0
  obtain ⟨b, hb', _, hz⟩ := DataW.trod_string hs h1
  obtain ⟨A', n', c', us, he', k1, k2, k3, k4⟩ := trod_slP (encA := ipC) (Q := fun f => f.1.size ≤ maxLen ∧ WfD f.2) hl hce (by omega) ipC_len (fun _ _ _ hh => trod_ipP he p0 p1 q0 q1 hs hd hu hce hcs hcd hcu hh) h2
  simp at ha hb' he'
  exact ⟨a, b, A', n', c', us, by rw [ha, hb', he'], hz, k1, k2, k3, k4⟩
end
section
variable {H : Type} {enc : TypeId × Value → H} {W : World} {base : Nat} {v : Value} {d : DataW H} {p : List MemPlace} {r : Reach} {b0 : Nat} {sp : Nat → Bool} {held : Bool}
set_option maxRecDepth 100000 in
theorem open_action (hv : Value.okWide Tryd.prog W r b0 44 v) (h : DataW.Trod enc Tryd.prog W base sp held 44 v d p) : ∃ k lab A n c fs, v = .agg #[.int .i64 k, .string lab, .slice A n c] ∧ lab.size ≤ maxLen ∧ Sl W W.heap.size 3 A n (flat ipC fs) ∧ n ≤ c ∧ c ≤ maxLen ∧ ∀ f ∈ fs, f.1.size ≤ maxLen ∧ WfD f.2 := by
  obtain ⟨cs, rfl, hsz⟩ := okWide_struct Tryd.underlying44 hv
  obtain ⟨fuel, hf⟩ := h
  obtain ⟨k, lab, A, n, c, fs, he, k'⟩ := trod_acP Tryd.underlying44 rfl rfl rfl rfl rfl rfl Tryd.underlying3 Tryd.underlying9 Tryd.underlying42 Tryd.underlying56 rfl rfl rfl rfl Tryd.underlying54 Tryd.underlying52 cellsAc cellsInt cellsStr cellsIps cellsIp cellsDg cellsU64 hf
  refine ⟨k, lab, A, n, c, fs, ?_, k'⟩
  have : cs.toList = [.int .i64 k, .string lab, .slice A n c] := he
  rw [show cs = #[.int .i64 k, .string lab, .slice A n c] by rw [← Array.toArray_toList (xs := cs), this]]
end
end Go.Proofs.YtiphbincnnppdaaDoor

namespace Go.Proofs.YtiphbincnnppdaaDoor
open Go.RowKit Go.Maps

set_option maxRecDepth 100000 in
set_option maxHeartbeats 4000000 in
theorem sameR_any (k : Int) (l : ByteArray) (A1 A2 A3 A4 : Option Addr) (n1 c1 n2 c2 n3 c3 n4 c4 B : Nat) (is : List Ipt) (fs : List Fl) (w : World) (h1 : Sl w B 3 A1 n1 (flat ipC is)) (h2 : Sl w B 2 A2 n2 (flat flC fs)) (h3 : Sl w B 3 A3 n3 (flat ipC is)) (h4 : Sl w B 2 A4 n4 (flat flC fs)) (hB : B ≤ w.heap.size) (m1 : n1 ≤ maxLen) (m2 : n2 ≤ maxLen) :
    Calls Tryd.prog 20 #[.agg #[.int .i64 k, .string l, .slice A1 n1 c1, .slice A2 n2 c2], .agg #[.int .i64 k, .string l, .slice A3 n3 c3, .slice A4 n4 c4]] w fun e w' => e = .returned (.bool true) ∧ Below w.heap.size w w' := by
  obtain ⟨W0, hW0⟩ : ∃ W0, (w.alloc (.cells #[.int .i64 k, .string l, .slice A1 n1 c1, .slice A2 n2 c2] 46)).alloc (.cells #[.int .i64 k, .string l, .slice A3 n3 c3, .slice A4 n4 c4] 46) = W0 := ⟨_, rfl⟩
  have HB0 : Hid (Below w.heap.size w W0) := by rw [← hW0]; exact ((Below.refl _ w).alloc (Nat.le_refl _) _).alloc (by simp) _
  have zW0 : W0.heap.size = w.heap.size + 2 := by rw [← hW0]; simp
  have K1 : Hid (Bk W0 w.heap.size 46 #[.int .i64 k, .string l, .slice A1 n1 c1, .slice A2 n2 c2]) := by rw [← hW0]; exact (Bk.new w _ _).alloc _
  have K2 : Hid (Bk W0 (w.heap.size + 1) 46 #[.int .i64 k, .string l, .slice A3 n3 c3, .slice A4 n4 c4]) := by
    rw [← hW0]
    have := Bk.new (w.alloc (.cells #[.int .i64 k, .string l, .slice A1 n1 c1, .slice A2 n2 c2] 46)) 46 #[.int .i64 k, .string l, .slice A3 n3 c3, .slice A4 n4 c4]
    rw [World.size_alloc] at this
    exact this
  have u0 := K1.out.cell 0; have u1 := K1.out.cell 1; have u2 := K1.out.cell 2
  have v0 := K2.out.cell 0; have v1 := K2.out.cell 1; have v2 := K2.out.cell 2
  simp at u0 u1 u2 v0 v1 v2
  have HSA : Hid (Calls Tryd.prog 40 #[.agg #[.int .i64 k, .string l, .slice A1 n1 c1], .agg #[.int .i64 k, .string l, .slice A3 n3 c3]] W0 fun e w' => e = .returned (.bool true) ∧ Below W0.heap.size W0 w') :=
    (sameA_any k k l l A1 A3 n1 c1 n3 c3 B is is W0 (h1.below HB0.out hB) (h3.below HB0.out hB) (by omega) m1).mono (fun e w' h => ⟨h.1.trans (ret_bool (decide_eq_true rfl)), h.2⟩)
  have H2 := Lib.hid h2; have H4 := Lib.hid h4
  clear h1 h2 h3 h4
  go_enter Tryd.func20, Tryd.ntmps20
  go_wp2_with fail
  refine HSA.out.mono ?_
  rintro e w1 ⟨rfl, hb1⟩
  have HB1 : Hid (Below w.heap.size w w1) := HB0.out.trans (hb1.mono (by omega))
  have L1 := Lib.hid (K1.out.below hb1 (by omega)); have L2 := Lib.hid (K2.out.below hb1 (by omega))
  have HSF : Hid (Calls Tryd.prog 21 #[.slice A2 n2 c2, .slice A4 n4 c4] w1 fun e w' => e = .returned (.bool true) ∧ ∃ q, w' = w1.drewN q) :=
    (sameF_any A2 A4 n2 c2 n4 c4 B fs fs w1 (H2.out.below HB1.out hB) (H4.out.below HB1.out hB) m2).mono (fun e w' h => ⟨h.1.trans (ret_bool (decide_eq_true rfl)), h.2⟩)
  clear hb1 u0 u1 u2 v0 v1 v2 hW0
  have u3 := L1.out.cell 3; have v3 := L2.out.cell 3
  simp at u3 v3
  go_wp2_with fail
  refine HSF.out.mono ?_
  rintro e w2 ⟨rfl, q, rfl⟩
  have HB2 : Hid (Below w.heap.size w (w1.drewN q)) := below_drewN HB1.out q
  go_wp2_with fail
  go_ret
  exact ⟨rfl, HB2.out⟩
end Go.Proofs.YtiphbincnnppdaaDoor

namespace Go.Proofs.YtiphbincnnppdaaDoor
open Go.RowKit Go.Maps

def GrtEnd (n : Nat) (w : World) (e : Ending) (w' : World) : Prop := ∃ r : Bool, e = .returned (.bool r) ∧ (r = false → n ≤ 12) ∧ w = w'
set_option maxRecDepth 100000 in
set_option maxHeartbeats 4000000 in
theorem rgreat_any (A : Option Addr) (n c B : Nat) (ts : List Tg) (w : World) (h0 : Sl w B 4 A n (flat tgC ts)) (hok : ∀ t ∈ ts, TgOk w B t) (hnc : n ≤ c) (hcm : c ≤ maxLen) :
    Calls Tryd.prog 7 #[.slice A n c] w (GrtEnd n w) := by
  have H0 := Lib.hid h0; have HOK := Lib.hid hok
  clear h0 hok
  have hnm : n ≤ 9223372036854775807 := by unfold maxLen at hcm; omega
  go_enter Tryd.func7, Tryd.ntmps7
  go_wp2
  go_loop [3] (fun i => ∃ k : Nat, k ≤ n ∧ i = .int .i64 k) (fun i => n - (intOf i).toNat)
  case atStart => exact ⟨0, Nat.zero_le _, rfl⟩
  case round =>
    obtain ⟨k, hk, rfl⟩ := hrel
    by_cases hlt : k < n
    · obtain ⟨b, off, t, rfl, hbB, ht, y0, y1, y2, y3⟩ := H0.out.tg hlt
      have HTO := Lib.hid (HOK.out t (List.mem_of_getElem? ht))
      have hkz : (k : Int) < (n : Int) := by omega
      have hd1 := HTO.out.dle; have hd2 := HTO.out.dmax; have hv1 := HTO.out.vle; have hv2 := HTO.out.vmax
      have hdm : t.dn ≤ 9223372036854775807 := by unfold maxLen at hd2; omega
      have hvm : t.vn ≤ 9223372036854775807 := by unfold maxLen at hv2; omega
      clear ht hd1 hd2 hv1 hv2
      obtain ⟨tl, kind, dA, dn, dc, deps, vA, vn, vc, vis⟩ := t
      simp only at y0 y1 y2 y3 hdm hvm
      by_cases c1 : (100 : Int) < (tl.size : Int)
      · go_wp2
        go_ret
        exact ⟨true, rfl, (fun e => by cases e), rfl⟩
      by_cases c2 : (12 : Int) < (dn : Int)
      · go_wp2
        go_ret
        exact ⟨true, rfl, (fun e => by cases e), rfl⟩
      by_cases c3 : (12 : Int) < (vn : Int)
      · go_wp2
        go_ret
        exact ⟨true, rfl, (fun e => by cases e), rfl⟩
      go_wp2
      go_loop [4] (fun i => ∃ j : Nat, j ≤ dn ∧ i = .int .i64 j) (fun i => dn - (intOf i).toNat)
      case atStart => exact ⟨0, Nat.zero_le _, rfl⟩
      case round =>
        obtain ⟨j, hj, rfl⟩ := hrel
        by_cases hjl : j < dn
        · obtain ⟨db, doff, d, hde, hdb, hd, z0⟩ := HTO.out.d.str_at hjl
          simp only at hde
          subst hde
          have hjz : (j : Int) < (dn : Int) := by omega
          clear hd
          by_cases c4 : (100 : Int) < (d.size : Int)
          · go_wp2
            go_ret
            exact ⟨true, rfl, (fun e => by cases e), rfl⟩
          · go_wp2
            go_round
            case rel => exact ⟨j + 1, hjl, by go_num⟩
            case measure => simp [intOf]; omega
        · have hjz : ¬ (j : Int) < (dn : Int) := by omega
          go_wp2
          go_loop [5] (fun i => ∃ j : Nat, j ≤ vn ∧ i = .int .i64 j) (fun i => vn - (intOf i).toNat)
          case atStart => exact ⟨0, Nat.zero_le _, rfl⟩
          case round =>
            obtain ⟨i, hi, rfl⟩ := hrel
            by_cases hil : i < vn
            · obtain ⟨db, doff, d, hde, hdb, hd, z0⟩ := HTO.out.v.str_at hil
              simp only at hde
              subst hde
              have hiz : (i : Int) < (vn : Int) := by omega
              clear hd
              by_cases c4 : (100 : Int) < (d.size : Int)
              · go_wp2
                go_ret
                exact ⟨true, rfl, (fun e => by cases e), rfl⟩
              · go_wp2
                go_round
                case rel => exact ⟨i + 1, hil, by go_num⟩
                case measure => simp [intOf]; omega
            · have hiz : ¬ (i : Int) < (vn : Int) := by omega
              go_wp2
              go_round
              case rel => exact ⟨k + 1, hlt, by go_num⟩
              case measure => simp [intOf]; omega
    · have hkz : ¬ (k : Int) < (n : Int) := by omega
      by_cases c5 : (12 : Int) < (n : Int)
      · go_wp2
        go_ret
        exact ⟨true, rfl, (fun e => by cases e), rfl⟩
      · go_wp2
        go_ret
        exact ⟨false, rfl, (fun _ => by omega), rfl⟩
end Go.Proofs.YtiphbincnnppdaaDoor

namespace Go.Proofs.YtiphbincnnppdaaDoor
open Go.RowKit

def lA : ByteArray := ⟨#[97]⟩
def lB : ByteArray := ⟨#[98]⟩
def lT : ByteArray := ⟨#[116]⟩
def awkT (p q : Option Addr) : List Tg := [⟨lA, 1, none, 0, 0, [], none, 0, 0, []⟩, ⟨lB, 1, p, 1, 1, [lA], none, 0, 0, []⟩, ⟨lT, 2, q, 1, 1, [lB], none, 0, 0, []⟩]
theorem awk_find (p q : Option Addr) (s : ByteArray) : findT (awkT p q) s = if lA = s then some ⟨lA, 1, none, 0, 0, [], none, 0, 0, []⟩ else if lB = s then some ⟨lB, 1, p, 1, 1, [lA], none, 0, 0, []⟩ else if lT = s then some ⟨lT, 2, q, 1, 1, [lB], none, 0, 0, []⟩ else none := rfl
theorem ab : lA ≠ lB := by decide
theorem at_ : lA ≠ lT := by decide
theorem bt : lB ≠ lT := by decide
theorem awk_a (p q : Option Addr) : nxT (awkT p q) lA = [] := by rw [nxT, awk_find, if_pos rfl]; rfl
theorem awk_b (p q : Option Addr) : nxT (awkT p q) lB = [lA] := by
  have : isT (awkT p q) lA = true := by rw [isT, awk_find, if_pos rfl]; rfl
  rw [nxT, awk_find, if_neg ab, if_pos rfl]; simp [this]
theorem awk_t (p q : Option Addr) : nxT (awkT p q) lT = [lB] := by
  have : isT (awkT p q) lB = true := by rw [isT, awk_find, if_neg ab, if_pos rfl]; rfl
  rw [nxT, awk_find, if_neg at_, if_neg bt, if_pos rfl]; simp [this]
theorem awk_o (p q : Option Addr) (s : ByteArray) (h1 : lA ≠ s) (h2 : lB ≠ s) (h3 : lT ≠ s) : nxT (awkT p q) s = [] := by
  rw [nxT, awk_find, if_neg h1, if_neg h2, if_neg h3]
theorem awk_step {p q : Option Addr} {s x : ByteArray} (h : x ∈ nxT (awkT p q) s) : (s = lB ∧ x = lA) ∨ (s = lT ∧ x = lB) := by
  by_cases h1 : lA = s
  · rw [← h1, awk_a] at h; cases h
  · by_cases h2 : lB = s
    · rw [← h2, awk_b] at h; exact .inl ⟨h2.symm, List.mem_singleton.1 h⟩
    · by_cases h3 : lT = s
      · rw [← h3, awk_t] at h; exact .inr ⟨h3.symm, List.mem_singleton.1 h⟩
      · rw [awk_o p q s h1 h2 h3] at h; cases h
theorem awk_stp {p q : Option Addr} : ∀ {n : Nat} {s x : ByteArray}, Stp (nxT (awkT p q)) n s x → (s = lB ∧ x = lA) ∨ (s = lT ∧ (x = lB ∨ x = lA))
  | 0, s, x, h => by
    rcases awk_step h with h | h
    · exact .inl h
    · exact .inr ⟨h.1, .inl h.2⟩
  | n + 1, s, x, h => by
    obtain ⟨c, hc, hx⟩ := h
    rcases awk_stp hc with ⟨h1, h2⟩ | ⟨h1, h2⟩
    · rcases awk_step hx with ⟨h3, _⟩ | ⟨h3, _⟩
      · exact absurd (h2.symm.trans h3) ab
      · exact absurd (h2.symm.trans h3) at_
    · rcases awk_step hx with ⟨_, h4⟩ | ⟨h3, _⟩
      · exact .inr ⟨h1, .inr h4⟩
      · rcases h2 with h2 | h2
        · exact absurd (h2.symm.trans h3) bt
        · exact absurd (h2.symm.trans h3) at_
theorem awk_free (p q : Option Addr) (s : ByteArray) : ¬ Rch (nxT (awkT p q)) s s := by
  rintro ⟨n, h⟩
  rcases awk_stp h with ⟨h1, h2⟩ | ⟨h1, h2 | h2⟩
  · exact ab (h2.symm.trans h1)
  · exact bt (h2.symm.trans h1)
  · exact at_ (h2.symm.trans h1)
theorem awk_rch (p q : Option Addr) (x : ByteArray) : Rch (nxT (awkT p q)) lT x ↔ (x = lB ∨ x = lA) := by
  constructor
  · rintro ⟨n, h⟩
    rcases awk_stp h with ⟨h1, _⟩ | ⟨_, h⟩
    · exact absurd h1.symm bt
    · exact h
  · have h1 : Rch (nxT (awkT p q)) lT lB := Rch.one (by rw [awk_t]; simp)
    rintro (rfl | rfl)
    · exact h1
    · exact h1.snoc (by rw [awk_b]; simp)
theorem awk_vld (p q : Option Addr) : Vld (awkT p q) := by
  refine ⟨by simp [awkT], fun t ht => ?_, ?_, awk_free p q⟩
  · simp only [awkT, List.mem_cons, List.mem_nil_iff, or_false] at ht
    rcases ht with rfl | rfl | rfl
    · exact ⟨by kernel_rfl, .inl rfl, by simp, (fun d hd => by cases hd), .nil, rfl⟩
    · exact ⟨by kernel_rfl, .inl rfl, by simp, (fun d hd => by rw [List.mem_singleton.1 hd, kindOf, awk_find, if_pos rfl]), by simp, rfl⟩
    · exact ⟨by kernel_rfl, .inr rfl, by simp, (fun d hd => by rw [List.mem_singleton.1 hd, kindOf, awk_find, if_neg ab, if_pos rfl]), by simp, rfl⟩
  · show Asc [lA, lB, lT]
    unfold Asc
    simp only [List.pairwise_cons, List.mem_cons, List.mem_nil_iff, or_false, forall_eq_or_imp, forall_eq]
    exact ⟨⟨by decide, by decide⟩, by decide, (fun a h => h.elim), .nil⟩
def out1 : List ByteArray := [⟨#[105, 102, 97, 99, 101, 32, 98]⟩, ⟨#[115, 111, 117, 114, 99, 101, 32, 116]⟩]
def out2 : List ByteArray := [⟨#[99, 111, 100, 101, 32, 97]⟩, ⟨#[99, 111, 100, 101, 32, 98]⟩, ⟨#[99, 111, 100, 101, 32, 116]⟩]
def out3 : List ByteArray := [⟨#[112, 114, 111, 103, 114, 97, 109, 32, 116]⟩]
theorem asc1 : Asc out1 := by
  unfold Asc out1
  simp only [List.pairwise_cons, List.mem_cons, List.mem_nil_iff, or_false, forall_eq]
  exact ⟨by decide, (fun a h => h.elim), .nil⟩
theorem asc2 : Asc out2 := by
  unfold Asc out2
  simp only [List.pairwise_cons, List.mem_cons, List.mem_nil_iff, or_false, forall_eq_or_imp, forall_eq]
  exact ⟨⟨by decide, by decide⟩, by decide, (fun a h => h.elim), .nil⟩
theorem asc3 : Asc out3 := by
  unfold Asc out3
  simp only [List.pairwise_cons, List.mem_nil_iff]
  exact ⟨(fun a h => h.elim), .nil⟩
theorem awk_inp {p q : Option Addr} {k : Int} {l : List ByteArray} {err : Int} (h : InpR (awkT p q) lT k l err) (hk : k = 1 ∨ k = 2 ∨ k = 3) :
    err = 0 ∧ Asc l ∧ ∀ x, x ∈ l ↔ InpMem (awkT p q) ⟨lT, 2, q, 1, 1, [lB], none, 0, 0, []⟩ lT k x := by
  have hf : findT (awkT p q) lT = some ⟨lT, 2, q, 1, 1, [lB], none, 0, 0, []⟩ := by rw [awk_find, if_neg at_, if_neg bt, if_pos rfl]
  rcases h with ⟨h, _⟩ | ⟨_, h, _⟩ | ⟨_, t, ht, h⟩
  · exact absurd (awk_vld p q) h
  · rw [isT, hf] at h; cases h
  · rw [hf] at ht; cases ht
    rcases h with ⟨⟨h1, h2⟩, _⟩ | ⟨_, h1, h2, h3⟩
    · rcases h2 with h2 | h2
      · omega
      · exact absurd h2 (by simp)
    · exact ⟨h1, h2, h3⟩
theorem awk1 {p q : Option Addr} {l : List ByteArray} {err : Int} (h : InpR (awkT p q) lT 1 l err) : err = 0 ∧ l = out1 := by
  obtain ⟨h1, h2, h3⟩ := awk_inp h (.inl rfl)
  refine ⟨h1, asc_ext h2 asc1 fun x => (h3 x).trans ?_⟩
  simp only [InpMem, exists_eq_left, out1, List.mem_cons, List.mem_nil_iff, or_false]
  constructor
  · rintro (⟨_, h | h⟩ | ⟨h, _⟩ | ⟨h, _⟩)
    · exact .inr (h.trans (by decide))
    · exact .inl (h.trans (by decide))
    · omega
    · omega
  · rintro (h | h)
    · exact .inl ⟨trivial, .inr (h.trans (by decide))⟩
    · exact .inl ⟨trivial, .inl (h.trans (by decide))⟩
theorem awk2 {p q : Option Addr} {l : List ByteArray} {err : Int} (h : InpR (awkT p q) lT 2 l err) : err = 0 ∧ l = out2 := by
  obtain ⟨h1, h2, h3⟩ := awk_inp h (.inr (.inl rfl))
  refine ⟨h1, asc_ext h2 asc2 fun x => (h3 x).trans ?_⟩
  simp only [InpMem, awk_rch, out2, List.mem_cons, List.mem_nil_iff, or_false]
  constructor
  · rintro (⟨h, _⟩ | ⟨_, h | ⟨d, rfl | rfl, h⟩⟩ | ⟨h, _⟩)
    · omega
    · exact .inr (.inr (h.trans (by decide)))
    · exact .inr (.inl (h.trans (by decide)))
    · exact .inl (h.trans (by decide))
    · omega
  · rintro (h | h | h)
    · exact .inr (.inl ⟨trivial, .inr ⟨lA, .inr rfl, h.trans (by decide)⟩⟩)
    · exact .inr (.inl ⟨trivial, .inr ⟨lB, .inl rfl, h.trans (by decide)⟩⟩)
    · exact .inr (.inl ⟨trivial, .inl (h.trans (by decide))⟩)
theorem awk3 {p q : Option Addr} {l : List ByteArray} {err : Int} (h : InpR (awkT p q) lT 3 l err) : err = 0 ∧ l = out3 := by
  obtain ⟨h1, h2, h3⟩ := awk_inp h (.inr (.inr rfl))
  refine ⟨h1, asc_ext h2 asc3 fun x => (h3 x).trans ?_⟩
  simp only [InpMem, out3, List.mem_cons, List.mem_nil_iff, or_false]
  constructor
  · rintro (⟨h, _⟩ | ⟨h, _⟩ | ⟨_, h⟩)
    · omega
    · omega
    · exact h.trans (by decide)
  · exact fun h => .inr (.inr ⟨trivial, h.trans (by decide)⟩)
end Go.Proofs.YtiphbincnnppdaaDoor

namespace Go.Proofs.YtiphbincnnppdaaDoor
open Go.RowKit Go.Maps

def LawEnd (w : World) (e : Ending) (w' : World) : Prop := e = .returned (.bool true) ∧ Below w.heap.size w w'
theorem smallF_sizes {fs : List Fl} (h : SmallF fs) : fs.length ≤ 30 ∧ ∀ f ∈ fs, f.1.size ≤ maxLen := ⟨h.1, fun f hf => by have := (h.2 f hf).1; unfold maxLen; omega⟩
set_option maxRecDepth 100000 in
set_option maxHeartbeats 2000000 in
theorem awake_any (w : World) : Calls Tryd.prog 8 #[] w fun e w' => e = .returned (.bool true) ∧ Below w.heap.size w w' := by
  go_enter Tryd.func8, Tryd.ntmps8
  go_wp2_with fail
  obtain ⟨W1, hW1⟩ : ∃ W, w.alloc (.cells #[.string ⟨#[97]⟩] 9) = W := ⟨_, rfl⟩
  obtain ⟨W2, hW2⟩ : ∃ W, W1.alloc (.cells #[.string ⟨#[98]⟩] 9) = W := ⟨_, rfl⟩
  obtain ⟨W3, hW3⟩ : ∃ W, W2.alloc (.cells #[.string ⟨#[97]⟩, .int .i64 1, .slice none 0 0, .slice none 0 0, .string ⟨#[98]⟩, .int .i64 1, .slice (some ⟨w.heap.size, 0, none⟩) 1 1, .slice none 0 0, .string ⟨#[116]⟩, .int .i64 2, .slice (some ⟨w.heap.size + 1, 0, none⟩) 1 1, .slice none 0 0] 35) = W := ⟨_, rfl⟩
  obtain ⟨W4, hW4⟩ : ∃ W, W3.alloc (.cells #[.slice (some ⟨w.heap.size + 1 + 1, 0, none⟩) 3 3] 24) = W := ⟨_, rfl⟩
  rw [hW1, hW2, hW3, hW4]
  have z1 : W1.heap.size = w.heap.size + 1 := by rw [← hW1]; simp
  have z2 : W2.heap.size = w.heap.size + 2 := by rw [← hW2]; simp [z1]
  have z3 : W3.heap.size = w.heap.size + 3 := by rw [← hW3]; simp [z2]
  have z4 : W4.heap.size = w.heap.size + 4 := by rw [← hW4]; simp [z3]
  have k1 : Bk W4 w.heap.size 9 #[.string ⟨#[97]⟩] := by rw [← hW4, ← hW3, ← hW2, ← hW1]; exact (((Bk.new w _ _).alloc _).alloc _).alloc _
  have k2 : Bk W4 (w.heap.size + 1) 9 #[.string ⟨#[98]⟩] := by
    rw [← hW4, ← hW3, ← hW2]
    have := ((Bk.new W1 9 #[.string ⟨#[98]⟩]).alloc (.cells #[.string ⟨#[97]⟩, .int .i64 1, .slice none 0 0, .slice none 0 0, .string ⟨#[98]⟩, .int .i64 1, .slice (some ⟨w.heap.size, 0, none⟩) 1 1, .slice none 0 0, .string ⟨#[116]⟩, .int .i64 2, .slice (some ⟨w.heap.size + 1, 0, none⟩) 1 1, .slice none 0 0] 35)).alloc (.cells #[.slice (some ⟨w.heap.size + 1 + 1, 0, none⟩) 3 3] 24)
    rw [z1] at this; exact this
  have k3 : Bk W4 (w.heap.size + 2) 35 #[.string ⟨#[97]⟩, .int .i64 1, .slice none 0 0, .slice none 0 0, .string ⟨#[98]⟩, .int .i64 1, .slice (some ⟨w.heap.size, 0, none⟩) 1 1, .slice none 0 0, .string ⟨#[116]⟩, .int .i64 2, .slice (some ⟨w.heap.size + 1, 0, none⟩) 1 1, .slice none 0 0] := by
    rw [← hW4, ← hW3]
    have := (Bk.new W2 35 #[.string ⟨#[97]⟩, .int .i64 1, .slice none 0 0, .slice none 0 0, .string ⟨#[98]⟩, .int .i64 1, .slice (some ⟨w.heap.size, 0, none⟩) 1 1, .slice none 0 0, .string ⟨#[116]⟩, .int .i64 2, .slice (some ⟨w.heap.size + 1, 0, none⟩) 1 1, .slice none 0 0]).alloc (.cells #[.slice (some ⟨w.heap.size + 1 + 1, 0, none⟩) 3 3] 24)
    rw [z2] at this; exact this
  have k4 : Bk W4 (w.heap.size + 3) 24 #[.slice (some ⟨w.heap.size + 1 + 1, 0, none⟩) 3 3] := by
    rw [← hW4]
    have := Bk.new W3 24 #[.slice (some ⟨w.heap.size + 1 + 1, 0, none⟩) 3 3]
    rw [z3] at this; exact this
  have HB0 : Hid (Below w.heap.size w W4) := by
    rw [← hW4, ← hW3, ← hW2, ← hW1]; exact ((((Below.refl _ w).alloc (Nat.le_refl _) _).alloc (by simp) _).alloc (by simp; omega) _).alloc (by simp; omega) _
  have HS : Hid (Sl W4 W4.heap.size 4 (some ⟨w.heap.size + 1 + 1, 0, none⟩) 3 (flat tgC (awkT (some ⟨w.heap.size, 0, none⟩) (some ⟨w.heap.size + 1, 0, none⟩)))) := Sl.of_bk k3 rfl
  have HOK : Hid (∀ t ∈ awkT (some ⟨w.heap.size, 0, none⟩) (some ⟨w.heap.size + 1, 0, none⟩), TgOk W4 W4.heap.size t) := by
    intro t ht
    have ml : ∀ s ∈ [lA, lB, lT], s.size ≤ maxLen := by decide
    simp only [awkT, List.mem_cons, List.mem_nil_iff, or_false] at ht
    rcases ht with rfl | rfl | rfl
    · exact ⟨Sl.nil _ _ _ _, Nat.le_refl _, Nat.zero_le _, Sl.nil _ _ _ _, Nat.le_refl _, Nat.zero_le _, ml _ (by simp), (fun s hs => by cases hs), (fun s hs => by cases hs)⟩
    · exact ⟨Sl.of_bk k1 rfl, Nat.le_refl _, show 1 ≤ maxLen by decide, Sl.nil _ _ _ _, Nat.le_refl _, Nat.zero_le _, ml _ (by simp), (fun s hs => by rw [List.mem_singleton.1 hs]; exact ml _ (by simp)), (fun s hs => by cases hs)⟩
    · exact ⟨Sl.of_bk k2 rfl, Nat.le_refl _, show 1 ≤ maxLen by decide, Sl.nil _ _ _ _, Nat.le_refl _, Nat.zero_le _, ml _ (by simp), (fun s hs => by rw [List.mem_singleton.1 hs]; exact ml _ (by simp)), (fun s hs => by cases hs)⟩
  have hls : lT.size ≤ maxLen := by decide
  have K4 := Lib.hid k4
  clear k1 k2 k3 k4 z1 z2 z3 hW1 hW2 hW3 hW4
  have HI1 := Lib.hid (inputs_any (some ⟨w.heap.size + 1 + 1, 0, none⟩) 3 3 W4.heap.size (awkT (some ⟨w.heap.size, 0, none⟩) (some ⟨w.heap.size + 1, 0, none⟩)) lT 1 W4 HS.out HOK.out (Nat.le_refl _) (Nat.le_refl _) (by decide) hls)
  refine HI1.out.mono ?_
  rintro e w1 ⟨A1, n1, c1, l1, e1, rfl, s1, m1, x1, hb1, r1⟩
  obtain ⟨rfl, rfl⟩ := awk1 r1
  have K41 := Lib.hid (K4.out.below hb1 (by omega)); have u0 := K41.out.cell 0; simp at u0
  have S1 := Lib.hid s1; have M1 := Lib.hid (Nat.le_trans m1 x1)
  have HB1 := Lib.hid hb1
  have y1 := hb1.size
  have HI2 := Lib.hid (inputs_any (some ⟨w.heap.size + 1 + 1, 0, none⟩) 3 3 W4.heap.size (awkT (some ⟨w.heap.size, 0, none⟩) (some ⟨w.heap.size + 1, 0, none⟩)) lT 2 w1 (HS.out.below hb1 (Nat.le_refl _)) (fun t ht => (HOK.out t ht).below hb1 (Nat.le_refl _)) y1 (Nat.le_refl _) (by decide) hls)
  clear s1 m1 x1 hb1 r1 K4 HI1
  go_wp2_with fail
  refine HI2.out.mono ?_
  rintro e w2 ⟨A2, n2, c2, l2, e2, rfl, s2, m2, x2, hb2, r2⟩
  obtain ⟨rfl, rfl⟩ := awk2 r2
  have y2 := hb2.size
  have K42 := Lib.hid (K41.out.below hb2 (by omega))
  have HB2 : Hid (Below W4.heap.size W4 w2) := HB1.out.trans (hb2.mono y1)
  have S12 := Lib.hid (S1.out.on hb2)
  have S2 := Lib.hid s2; have M2 := Lib.hid (Nat.le_trans m2 x2)
  have HI3 := Lib.hid (inputs_any (some ⟨w.heap.size + 1 + 1, 0, none⟩) 3 3 W4.heap.size (awkT (some ⟨w.heap.size, 0, none⟩) (some ⟨w.heap.size + 1, 0, none⟩)) lT 3 w2 (HS.out.below HB2.out (Nat.le_refl _)) (fun t ht => (HOK.out t ht).below HB2.out (Nat.le_refl _)) (Nat.le_trans y1 y2) (Nat.le_refl _) (by decide) hls)
  clear s2 m2 x2 hb2 r2 K41 HI2 u0 HB1 S1
  have u0 := K42.out.cell 0; simp at u0
  go_wp2_with fail
  refine HI3.out.mono ?_
  rintro e w3 ⟨A3, n3, c3, l3, e3, rfl, s3, m3, x3, hb3, r3⟩
  obtain ⟨rfl, rfl⟩ := awk3 r3
  have y3 := hb3.size
  have HB3 : Hid (Below w.heap.size w w3) := HB0.out.trans ((HB2.out.trans (hb3.mono (Nat.le_trans y1 y2))).mono (by omega))
  have S13 := Lib.hid (S12.out.on hb3); have S23 := Lib.hid (S2.out.on hb3)
  have S3 := Lib.hid s3; have M3 := Lib.hid (Nat.le_trans m3 x3)
  clear s3 m3 x3 hb3 r3 K42 HI3 u0 HB2 S12 S2 HS HOK HB0
  go_wp2_with fail
  have q1 := Sl.of_bk (Bk.new w3 9 #[.string ⟨#[105, 102, 97, 99, 101, 32, 98]⟩, .string ⟨#[115, 111, 117, 114, 99, 101, 32, 116]⟩]) (n := 2) (size := 1) rfl
  refine (sameS_any A1 _ n1 c1 2 2 _ out1 out1 _ (S13.out.boxed _) q1 M1.out).mono ?_
  rintro e w4 ⟨rfl, k, rfl⟩
  rw [decide_eq_true rfl]
  obtain ⟨w4, hw4⟩ : ∃ W, (w3.alloc (.cells #[.string ⟨#[105, 102, 97, 99, 101, 32, 98]⟩, .string ⟨#[115, 111, 117, 114, 99, 101, 32, 116]⟩] 9)).drewN k = W := ⟨_, rfl⟩
  have HB4 : Hid (Below w.heap.size w w4) := by rw [← hw4]; exact below_drewN (HB3.out.alloc (by omega) _) k
  have S24 : Hid (Sl w4 w4.heap.size 1 A2 n2 (strs out2)) := by rw [← hw4]; exact (S23.out.boxed _).drewN k
  have S34 : Hid (Sl w4 w4.heap.size 1 A3 n3 (strs out3)) := by rw [← hw4]; exact (S3.out.boxed _).drewN k
  have y4 := HB4.out.size
  rw [hw4]
  clear q1 HB3 S13 S23 S3 hw4
  go_wp2_with fail
  have q1 := Sl.of_bk (Bk.new w4 9 #[.string ⟨#[99, 111, 100, 101, 32, 97]⟩, .string ⟨#[99, 111, 100, 101, 32, 98]⟩, .string ⟨#[99, 111, 100, 101, 32, 116]⟩]) (n := 3) (size := 1) rfl
  refine (sameS_any A2 _ n2 c2 3 3 _ out2 out2 _ (S24.out.boxed _) q1 M2.out).mono ?_
  rintro e w5 ⟨rfl, k5, rfl⟩
  rw [decide_eq_true rfl]
  obtain ⟨w5, hw5⟩ : ∃ W, (w4.alloc (.cells #[.string ⟨#[99, 111, 100, 101, 32, 97]⟩, .string ⟨#[99, 111, 100, 101, 32, 98]⟩, .string ⟨#[99, 111, 100, 101, 32, 116]⟩] 9)).drewN k5 = W := ⟨_, rfl⟩
  have HB5 : Hid (Below w.heap.size w w5) := by rw [← hw5]; exact below_drewN (HB4.out.alloc (by omega) _) k5
  have S35 : Hid (Sl w5 w5.heap.size 1 A3 n3 (strs out3)) := by rw [← hw5]; exact (S34.out.boxed _).drewN k5
  have y5 := HB5.out.size
  rw [hw5]
  clear q1 HB4 S24 S34 hw5
  go_wp2_with fail
  have q1 := Sl.of_bk (Bk.new w5 9 #[.string ⟨#[112, 114, 111, 103, 114, 97, 109, 32, 116]⟩]) (n := 1) (size := 1) rfl
  refine (sameS_any A3 _ n3 c3 1 1 _ out3 out3 _ (S35.out.boxed _) q1 M3.out).mono ?_
  rintro e w6 ⟨rfl, k6, rfl⟩
  rw [decide_eq_true rfl]
  have HB6 : Hid (Below w.heap.size w ((w5.alloc (.cells #[.string ⟨#[112, 114, 111, 103, 114, 97, 109, 32, 116]⟩] 9)).drewN k6)) := below_drewN (HB5.out.alloc (by omega) _) k6
  clear q1
  go_wp2_with fail
  go_ret
  exact ⟨rfl, HB6.out⟩
end Go.Proofs.YtiphbincnnppdaaDoor

namespace Go.Proofs.YtiphbincnnppdaaDoor
open Go.RowKit

/-- what is known of the values of a drawn region, the k-th operation making a box -/
def alPhi (k : Nat) (vals : List Value) (base : Nat) (t : TypeId) (cs : Array Value) (i : Nat) (v : Value) (W : World) : Prop :=
  if i = k then ∃ b0, v = .pointer (some ⟨b0, 0, none⟩) ∧ base ≤ b0 ∧ Bk W b0 t cs else vPhi vals i v W
theorem alPhi_keep {k : Nat} {vals : List Value} {base : Nat} {t : TypeId} {cs : Array Value} (i : Nat) (v : Value) (W W' : World) (h : alPhi k vals base t cs i v W) (hb : Below W.heap.size W W') : alPhi k vals base t cs i v W' := by
  unfold alPhi at h ⊢
  by_cases e : i = k
  · rw [if_pos e] at h ⊢
    obtain ⟨b0, h1, h2, h3⟩ := h
    exact ⟨b0, h1, h2, h3.below hb h3.lt⟩
  · rw [if_neg e] at h ⊢; exact h
/-- what is known of the values of a drawn region, the k-th operation making a slice of one element -/
def asPhi (k : Nat) (vals : List Value) (base : Nat) (t : TypeId) (cs : Array Value) (i : Nat) (v : Value) (W : World) : Prop :=
  if i = k then ∃ b0, v = .slice (some ⟨b0, 0, none⟩) 1 1 ∧ base ≤ b0 ∧ Bk W b0 t cs else vPhi vals i v W
theorem asPhi_keep {k : Nat} {vals : List Value} {base : Nat} {t : TypeId} {cs : Array Value} (i : Nat) (v : Value) (W W' : World) (h : asPhi k vals base t cs i v W) (hb : Below W.heap.size W W') : asPhi k vals base t cs i v W' := by
  unfold asPhi at h ⊢
  by_cases e : i = k
  · rw [if_pos e] at h ⊢
    obtain ⟨b0, h1, h2, h3⟩ := h
    exact ⟨b0, h1, h2, h3.below hb h3.lt⟩
  · rw [if_neg e] at h ⊢; exact h
end Go.Proofs.YtiphbincnnppdaaDoor

namespace Go.Proofs.YtiphbincnnppdaaDoor

theorem ls1 {vs : List Value} (h : vs.length = 1) : ∃ v0, vs = v0 :: [] := by
  match vs, h with
  | v0 :: [], _ => exact ⟨_, rfl⟩
theorem ls2 {vs : List Value} (h : vs.length = 2) : ∃ v0 v1, vs = v0 :: v1 :: [] := by
  match vs, h with
  | v0 :: v1 :: [], _ => exact ⟨_, _, rfl⟩
theorem ls3 {vs : List Value} (h : vs.length = 3) : ∃ v0 v1 v2, vs = v0 :: v1 :: v2 :: [] := by
  match vs, h with
  | v0 :: v1 :: v2 :: [], _ => exact ⟨_, _, _, rfl⟩
theorem ls4 {vs : List Value} (h : vs.length = 4) : ∃ v0 v1 v2 v3, vs = v0 :: v1 :: v2 :: v3 :: [] := by
  match vs, h with
  | v0 :: v1 :: v2 :: v3 :: [], _ => exact ⟨_, _, _, _, rfl⟩
theorem ls5 {vs : List Value} (h : vs.length = 5) : ∃ v0 v1 v2 v3 v4, vs = v0 :: v1 :: v2 :: v3 :: v4 :: [] := by
  match vs, h with
  | v0 :: v1 :: v2 :: v3 :: v4 :: [], _ => exact ⟨_, _, _, _, _, rfl⟩
theorem ls6 {vs : List Value} (h : vs.length = 6) : ∃ v0 v1 v2 v3 v4 v5, vs = v0 :: v1 :: v2 :: v3 :: v4 :: v5 :: [] := by
  match vs, h with
  | v0 :: v1 :: v2 :: v3 :: v4 :: v5 :: [], _ => exact ⟨_, _, _, _, _, _, rfl⟩
theorem ls7 {vs : List Value} (h : vs.length = 7) : ∃ v0 v1 v2 v3 v4 v5 v6, vs = v0 :: v1 :: v2 :: v3 :: v4 :: v5 :: v6 :: [] := by
  match vs, h with
  | v0 :: v1 :: v2 :: v3 :: v4 :: v5 :: v6 :: [], _ => exact ⟨_, _, _, _, _, _, _, rfl⟩
theorem ls8 {vs : List Value} (h : vs.length = 8) : ∃ v0 v1 v2 v3 v4 v5 v6 v7, vs = v0 :: v1 :: v2 :: v3 :: v4 :: v5 :: v6 :: v7 :: [] := by
  match vs, h with
  | v0 :: v1 :: v2 :: v3 :: v4 :: v5 :: v6 :: v7 :: [], _ => exact ⟨_, _, _, _, _, _, _, _, rfl⟩
theorem ls9 {vs : List Value} (h : vs.length = 9) : ∃ v0 v1 v2 v3 v4 v5 v6 v7 v8, vs = v0 :: v1 :: v2 :: v3 :: v4 :: v5 :: v6 :: v7 :: v8 :: [] := by
  match vs, h with
  | v0 :: v1 :: v2 :: v3 :: v4 :: v5 :: v6 :: v7 :: v8 :: [], _ => exact ⟨_, _, _, _, _, _, _, _, _, rfl⟩
theorem ls10 {vs : List Value} (h : vs.length = 10) : ∃ v0 v1 v2 v3 v4 v5 v6 v7 v8 v9, vs = v0 :: v1 :: v2 :: v3 :: v4 :: v5 :: v6 :: v7 :: v8 :: v9 :: [] := by
  match vs, h with
  | v0 :: v1 :: v2 :: v3 :: v4 :: v5 :: v6 :: v7 :: v8 :: v9 :: [], _ => exact ⟨_, _, _, _, _, _, _, _, _, _, rfl⟩
theorem ls11 {vs : List Value} (h : vs.length = 11) : ∃ v0 v1 v2 v3 v4 v5 v6 v7 v8 v9 v10, vs = v0 :: v1 :: v2 :: v3 :: v4 :: v5 :: v6 :: v7 :: v8 :: v9 :: v10 :: [] := by
  match vs, h with
  | v0 :: v1 :: v2 :: v3 :: v4 :: v5 :: v6 :: v7 :: v8 :: v9 :: v10 :: [], _ => exact ⟨_, _, _, _, _, _, _, _, _, _, _, rfl⟩
theorem ls12 {vs : List Value} (h : vs.length = 12) : ∃ v0 v1 v2 v3 v4 v5 v6 v7 v8 v9 v10 v11, vs = v0 :: v1 :: v2 :: v3 :: v4 :: v5 :: v6 :: v7 :: v8 :: v9 :: v10 :: v11 :: [] := by
  match vs, h with
  | v0 :: v1 :: v2 :: v3 :: v4 :: v5 :: v6 :: v7 :: v8 :: v9 :: v10 :: v11 :: [], _ => exact ⟨_, _, _, _, _, _, _, _, _, _, _, _, rfl⟩
theorem ls13 {vs : List Value} (h : vs.length = 13) : ∃ v0 v1 v2 v3 v4 v5 v6 v7 v8 v9 v10 v11 v12, vs = v0 :: v1 :: v2 :: v3 :: v4 :: v5 :: v6 :: v7 :: v8 :: v9 :: v10 :: v11 :: v12 :: [] := by
  match vs, h with
  | v0 :: v1 :: v2 :: v3 :: v4 :: v5 :: v6 :: v7 :: v8 :: v9 :: v10 :: v11 :: v12 :: [], _ => exact ⟨_, _, _, _, _, _, _, _, _, _, _, _, _, rfl⟩
theorem ls14 {vs : List Value} (h : vs.length = 14) : ∃ v0 v1 v2 v3 v4 v5 v6 v7 v8 v9 v10 v11 v12 v13, vs = v0 :: v1 :: v2 :: v3 :: v4 :: v5 :: v6 :: v7 :: v8 :: v9 :: v10 :: v11 :: v12 :: v13 :: [] := by
  match vs, h with
  | v0 :: v1 :: v2 :: v3 :: v4 :: v5 :: v6 :: v7 :: v8 :: v9 :: v10 :: v11 :: v12 :: v13 :: [], _ => exact ⟨_, _, _, _, _, _, _, _, _, _, _, _, _, _, rfl⟩
theorem ls15 {vs : List Value} (h : vs.length = 15) : ∃ v0 v1 v2 v3 v4 v5 v6 v7 v8 v9 v10 v11 v12 v13 v14, vs = v0 :: v1 :: v2 :: v3 :: v4 :: v5 :: v6 :: v7 :: v8 :: v9 :: v10 :: v11 :: v12 :: v13 :: v14 :: [] := by
  match vs, h with
  | v0 :: v1 :: v2 :: v3 :: v4 :: v5 :: v6 :: v7 :: v8 :: v9 :: v10 :: v11 :: v12 :: v13 :: v14 :: [], _ => exact ⟨_, _, _, _, _, _, _, _, _, _, _, _, _, _, _, rfl⟩
theorem ls16 {vs : List Value} (h : vs.length = 16) : ∃ v0 v1 v2 v3 v4 v5 v6 v7 v8 v9 v10 v11 v12 v13 v14 v15, vs = v0 :: v1 :: v2 :: v3 :: v4 :: v5 :: v6 :: v7 :: v8 :: v9 :: v10 :: v11 :: v12 :: v13 :: v14 :: v15 :: [] := by
  match vs, h with
  | v0 :: v1 :: v2 :: v3 :: v4 :: v5 :: v6 :: v7 :: v8 :: v9 :: v10 :: v11 :: v12 :: v13 :: v14 :: v15 :: [], _ => exact ⟨_, _, _, _, _, _, _, _, _, _, _, _, _, _, _, _, rfl⟩
theorem ls17 {vs : List Value} (h : vs.length = 17) : ∃ v0 v1 v2 v3 v4 v5 v6 v7 v8 v9 v10 v11 v12 v13 v14 v15 v16, vs = v0 :: v1 :: v2 :: v3 :: v4 :: v5 :: v6 :: v7 :: v8 :: v9 :: v10 :: v11 :: v12 :: v13 :: v14 :: v15 :: v16 :: [] := by
  match vs, h with
  | v0 :: v1 :: v2 :: v3 :: v4 :: v5 :: v6 :: v7 :: v8 :: v9 :: v10 :: v11 :: v12 :: v13 :: v14 :: v15 :: v16 :: [], _ => exact ⟨_, _, _, _, _, _, _, _, _, _, _, _, _, _, _, _, _, rfl⟩
theorem ls18 {vs : List Value} (h : vs.length = 18) : ∃ v0 v1 v2 v3 v4 v5 v6 v7 v8 v9 v10 v11 v12 v13 v14 v15 v16 v17, vs = v0 :: v1 :: v2 :: v3 :: v4 :: v5 :: v6 :: v7 :: v8 :: v9 :: v10 :: v11 :: v12 :: v13 :: v14 :: v15 :: v16 :: v17 :: [] := by
  match vs, h with
  | v0 :: v1 :: v2 :: v3 :: v4 :: v5 :: v6 :: v7 :: v8 :: v9 :: v10 :: v11 :: v12 :: v13 :: v14 :: v15 :: v16 :: v17 :: [], _ => exact ⟨_, _, _, _, _, _, _, _, _, _, _, _, _, _, _, _, _, _, rfl⟩
theorem ls19 {vs : List Value} (h : vs.length = 19) : ∃ v0 v1 v2 v3 v4 v5 v6 v7 v8 v9 v10 v11 v12 v13 v14 v15 v16 v17 v18, vs = v0 :: v1 :: v2 :: v3 :: v4 :: v5 :: v6 :: v7 :: v8 :: v9 :: v10 :: v11 :: v12 :: v13 :: v14 :: v15 :: v16 :: v17 :: v18 :: [] := by
  match vs, h with
  | v0 :: v1 :: v2 :: v3 :: v4 :: v5 :: v6 :: v7 :: v8 :: v9 :: v10 :: v11 :: v12 :: v13 :: v14 :: v15 :: v16 :: v17 :: v18 :: [], _ => exact ⟨_, _, _, _, _, _, _, _, _, _, _, _, _, _, _, _, _, _, _, rfl⟩
theorem ls20 {vs : List Value} (h : vs.length = 20) : ∃ v0 v1 v2 v3 v4 v5 v6 v7 v8 v9 v10 v11 v12 v13 v14 v15 v16 v17 v18 v19, vs = v0 :: v1 :: v2 :: v3 :: v4 :: v5 :: v6 :: v7 :: v8 :: v9 :: v10 :: v11 :: v12 :: v13 :: v14 :: v15 :: v16 :: v17 :: v18 :: v19 :: [] := by
  match vs, h with
  | v0 :: v1 :: v2 :: v3 :: v4 :: v5 :: v6 :: v7 :: v8 :: v9 :: v10 :: v11 :: v12 :: v13 :: v14 :: v15 :: v16 :: v17 :: v18 :: v19 :: [], _ => exact ⟨_, _, _, _, _, _, _, _, _, _, _, _, _, _, _, _, _, _, _, _, rfl⟩
theorem ls21 {vs : List Value} (h : vs.length = 21) : ∃ v0 v1 v2 v3 v4 v5 v6 v7 v8 v9 v10 v11 v12 v13 v14 v15 v16 v17 v18 v19 v20, vs = v0 :: v1 :: v2 :: v3 :: v4 :: v5 :: v6 :: v7 :: v8 :: v9 :: v10 :: v11 :: v12 :: v13 :: v14 :: v15 :: v16 :: v17 :: v18 :: v19 :: v20 :: [] := by
  match vs, h with
  | v0 :: v1 :: v2 :: v3 :: v4 :: v5 :: v6 :: v7 :: v8 :: v9 :: v10 :: v11 :: v12 :: v13 :: v14 :: v15 :: v16 :: v17 :: v18 :: v19 :: v20 :: [], _ => exact ⟨_, _, _, _, _, _, _, _, _, _, _, _, _, _, _, _, _, _, _, _, _, rfl⟩
theorem ls22 {vs : List Value} (h : vs.length = 22) : ∃ v0 v1 v2 v3 v4 v5 v6 v7 v8 v9 v10 v11 v12 v13 v14 v15 v16 v17 v18 v19 v20 v21, vs = v0 :: v1 :: v2 :: v3 :: v4 :: v5 :: v6 :: v7 :: v8 :: v9 :: v10 :: v11 :: v12 :: v13 :: v14 :: v15 :: v16 :: v17 :: v18 :: v19 :: v20 :: v21 :: [] := by
  match vs, h with
  | v0 :: v1 :: v2 :: v3 :: v4 :: v5 :: v6 :: v7 :: v8 :: v9 :: v10 :: v11 :: v12 :: v13 :: v14 :: v15 :: v16 :: v17 :: v18 :: v19 :: v20 :: v21 :: [], _ => exact ⟨_, _, _, _, _, _, _, _, _, _, _, _, _, _, _, _, _, _, _, _, _, _, rfl⟩
theorem ls23 {vs : List Value} (h : vs.length = 23) : ∃ v0 v1 v2 v3 v4 v5 v6 v7 v8 v9 v10 v11 v12 v13 v14 v15 v16 v17 v18 v19 v20 v21 v22, vs = v0 :: v1 :: v2 :: v3 :: v4 :: v5 :: v6 :: v7 :: v8 :: v9 :: v10 :: v11 :: v12 :: v13 :: v14 :: v15 :: v16 :: v17 :: v18 :: v19 :: v20 :: v21 :: v22 :: [] := by
  match vs, h with
  | v0 :: v1 :: v2 :: v3 :: v4 :: v5 :: v6 :: v7 :: v8 :: v9 :: v10 :: v11 :: v12 :: v13 :: v14 :: v15 :: v16 :: v17 :: v18 :: v19 :: v20 :: v21 :: v22 :: [], _ => exact ⟨_, _, _, _, _, _, _, _, _, _, _, _, _, _, _, _, _, _, _, _, _, _, _, rfl⟩
theorem ls24 {vs : List Value} (h : vs.length = 24) : ∃ v0 v1 v2 v3 v4 v5 v6 v7 v8 v9 v10 v11 v12 v13 v14 v15 v16 v17 v18 v19 v20 v21 v22 v23, vs = v0 :: v1 :: v2 :: v3 :: v4 :: v5 :: v6 :: v7 :: v8 :: v9 :: v10 :: v11 :: v12 :: v13 :: v14 :: v15 :: v16 :: v17 :: v18 :: v19 :: v20 :: v21 :: v22 :: v23 :: [] := by
  match vs, h with
  | v0 :: v1 :: v2 :: v3 :: v4 :: v5 :: v6 :: v7 :: v8 :: v9 :: v10 :: v11 :: v12 :: v13 :: v14 :: v15 :: v16 :: v17 :: v18 :: v19 :: v20 :: v21 :: v22 :: v23 :: [], _ => exact ⟨_, _, _, _, _, _, _, _, _, _, _, _, _, _, _, _, _, _, _, _, _, _, _, _, rfl⟩
theorem ls25 {vs : List Value} (h : vs.length = 25) : ∃ v0 v1 v2 v3 v4 v5 v6 v7 v8 v9 v10 v11 v12 v13 v14 v15 v16 v17 v18 v19 v20 v21 v22 v23 v24, vs = v0 :: v1 :: v2 :: v3 :: v4 :: v5 :: v6 :: v7 :: v8 :: v9 :: v10 :: v11 :: v12 :: v13 :: v14 :: v15 :: v16 :: v17 :: v18 :: v19 :: v20 :: v21 :: v22 :: v23 :: v24 :: [] := by
  match vs, h with
  | v0 :: v1 :: v2 :: v3 :: v4 :: v5 :: v6 :: v7 :: v8 :: v9 :: v10 :: v11 :: v12 :: v13 :: v14 :: v15 :: v16 :: v17 :: v18 :: v19 :: v20 :: v21 :: v22 :: v23 :: v24 :: [], _ => exact ⟨_, _, _, _, _, _, _, _, _, _, _, _, _, _, _, _, _, _, _, _, _, _, _, _, _, rfl⟩
theorem ls26 {vs : List Value} (h : vs.length = 26) : ∃ v0 v1 v2 v3 v4 v5 v6 v7 v8 v9 v10 v11 v12 v13 v14 v15 v16 v17 v18 v19 v20 v21 v22 v23 v24 v25, vs = v0 :: v1 :: v2 :: v3 :: v4 :: v5 :: v6 :: v7 :: v8 :: v9 :: v10 :: v11 :: v12 :: v13 :: v14 :: v15 :: v16 :: v17 :: v18 :: v19 :: v20 :: v21 :: v22 :: v23 :: v24 :: v25 :: [] := by
  match vs, h with
  | v0 :: v1 :: v2 :: v3 :: v4 :: v5 :: v6 :: v7 :: v8 :: v9 :: v10 :: v11 :: v12 :: v13 :: v14 :: v15 :: v16 :: v17 :: v18 :: v19 :: v20 :: v21 :: v22 :: v23 :: v24 :: v25 :: [], _ => exact ⟨_, _, _, _, _, _, _, _, _, _, _, _, _, _, _, _, _, _, _, _, _, _, _, _, _, _, rfl⟩
theorem ls27 {vs : List Value} (h : vs.length = 27) : ∃ v0 v1 v2 v3 v4 v5 v6 v7 v8 v9 v10 v11 v12 v13 v14 v15 v16 v17 v18 v19 v20 v21 v22 v23 v24 v25 v26, vs = v0 :: v1 :: v2 :: v3 :: v4 :: v5 :: v6 :: v7 :: v8 :: v9 :: v10 :: v11 :: v12 :: v13 :: v14 :: v15 :: v16 :: v17 :: v18 :: v19 :: v20 :: v21 :: v22 :: v23 :: v24 :: v25 :: v26 :: [] := by
  match vs, h with
  | v0 :: v1 :: v2 :: v3 :: v4 :: v5 :: v6 :: v7 :: v8 :: v9 :: v10 :: v11 :: v12 :: v13 :: v14 :: v15 :: v16 :: v17 :: v18 :: v19 :: v20 :: v21 :: v22 :: v23 :: v24 :: v25 :: v26 :: [], _ => exact ⟨_, _, _, _, _, _, _, _, _, _, _, _, _, _, _, _, _, _, _, _, _, _, _, _, _, _, _, rfl⟩
theorem ls28 {vs : List Value} (h : vs.length = 28) : ∃ v0 v1 v2 v3 v4 v5 v6 v7 v8 v9 v10 v11 v12 v13 v14 v15 v16 v17 v18 v19 v20 v21 v22 v23 v24 v25 v26 v27, vs = v0 :: v1 :: v2 :: v3 :: v4 :: v5 :: v6 :: v7 :: v8 :: v9 :: v10 :: v11 :: v12 :: v13 :: v14 :: v15 :: v16 :: v17 :: v18 :: v19 :: v20 :: v21 :: v22 :: v23 :: v24 :: v25 :: v26 :: v27 :: [] := by
  match vs, h with
  | v0 :: v1 :: v2 :: v3 :: v4 :: v5 :: v6 :: v7 :: v8 :: v9 :: v10 :: v11 :: v12 :: v13 :: v14 :: v15 :: v16 :: v17 :: v18 :: v19 :: v20 :: v21 :: v22 :: v23 :: v24 :: v25 :: v26 :: v27 :: [], _ => exact ⟨_, _, _, _, _, _, _, _, _, _, _, _, _, _, _, _, _, _, _, _, _, _, _, _, _, _, _, _, rfl⟩
theorem ls29 {vs : List Value} (h : vs.length = 29) : ∃ v0 v1 v2 v3 v4 v5 v6 v7 v8 v9 v10 v11 v12 v13 v14 v15 v16 v17 v18 v19 v20 v21 v22 v23 v24 v25 v26 v27 v28, vs = v0 :: v1 :: v2 :: v3 :: v4 :: v5 :: v6 :: v7 :: v8 :: v9 :: v10 :: v11 :: v12 :: v13 :: v14 :: v15 :: v16 :: v17 :: v18 :: v19 :: v20 :: v21 :: v22 :: v23 :: v24 :: v25 :: v26 :: v27 :: v28 :: [] := by
  match vs, h with
  | v0 :: v1 :: v2 :: v3 :: v4 :: v5 :: v6 :: v7 :: v8 :: v9 :: v10 :: v11 :: v12 :: v13 :: v14 :: v15 :: v16 :: v17 :: v18 :: v19 :: v20 :: v21 :: v22 :: v23 :: v24 :: v25 :: v26 :: v27 :: v28 :: [], _ => exact ⟨_, _, _, _, _, _, _, _, _, _, _, _, _, _, _, _, _, _, _, _, _, _, _, _, _, _, _, _, _, rfl⟩
theorem ls30 {vs : List Value} (h : vs.length = 30) : ∃ v0 v1 v2 v3 v4 v5 v6 v7 v8 v9 v10 v11 v12 v13 v14 v15 v16 v17 v18 v19 v20 v21 v22 v23 v24 v25 v26 v27 v28 v29, vs = v0 :: v1 :: v2 :: v3 :: v4 :: v5 :: v6 :: v7 :: v8 :: v9 :: v10 :: v11 :: v12 :: v13 :: v14 :: v15 :: v16 :: v17 :: v18 :: v19 :: v20 :: v21 :: v22 :: v23 :: v24 :: v25 :: v26 :: v27 :: v28 :: v29 :: [] := by
  match vs, h with
  | v0 :: v1 :: v2 :: v3 :: v4 :: v5 :: v6 :: v7 :: v8 :: v9 :: v10 :: v11 :: v12 :: v13 :: v14 :: v15 :: v16 :: v17 :: v18 :: v19 :: v20 :: v21 :: v22 :: v23 :: v24 :: v25 :: v26 :: v27 :: v28 :: v29 :: [], _ => exact ⟨_, _, _, _, _, _, _, _, _, _, _, _, _, _, _, _, _, _, _, _, _, _, _, _, _, _, _, _, _, _, rfl⟩
end Go.Proofs.YtiphbincnnppdaaDoor
