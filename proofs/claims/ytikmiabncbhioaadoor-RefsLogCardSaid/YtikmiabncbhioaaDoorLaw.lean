/-
  Plain laws on refs: no program in sight.
-/
import Derived.Test.YtikmiabncbhioaaDoorGUpt
namespace Go.Proofs.YtikmiabncbhioaaDoor

theorem getL_none {l : List Rf} {s : ByteArray} (h : ∀ r ∈ l, r.1 ≠ s) : getL l s = (0, 0) := by
  induction l with
  | nil => rfl
  | cons r l ih =>
    simp only [getL]
    rw [if_neg (h r (by simp))]
    exact ih (fun q hq => h q (List.mem_cons_of_mem _ hq))
theorem less_ne {s t : ByteArray} (h : less s t = true) : s ≠ t := by
  rintro rfl
  unfold less at h
  rw [less_irrefl] at h; cases h
theorem less_conn' {s t : ByteArray} (h1 : less s t = false) (h2 : less t s = false) : s = t := data_inj (less_conn _ _ h1 h2)
theorem getL_self {l : List Rf} {s : ByteArray} {d : Dig} (h : Srt l) : getL (setL l s d) s = d := by
  induction l with
  | nil =>
    simp only [setL]
    by_cases hd : d = (0, 0)
    · rw [if_pos hd, hd]; rfl
    · rw [if_neg hd]; simp [getL]
  | cons r l ih =>
    have hc := List.pairwise_cons.1 h
    simp only [setL]
    by_cases hl : less r.1 s = true
    · rw [if_pos hl]
      simp only [getL]
      rw [if_neg (less_ne hl)]
      exact ih hc.2
    · have hl' : less r.1 s = false := by simpa using hl
      rw [if_neg hl]
      by_cases hd : d = (0, 0)
      · rw [if_pos hd, hd, List.nil_append]
        by_cases e : r.1 = s
        · rw [if_pos e]; exact getL_none (srt_ne h hl')
        · rw [if_neg e]
          refine getL_none (fun q hq => ?_)
          rcases List.mem_cons.1 hq with rfl | hq
          · exact e
          · exact srt_ne h hl' q hq
      · rw [if_neg hd]; simp [getL]
theorem getL_other {l : List Rf} {s t : ByteArray} {d : Dig} (hne : t ≠ s) : getL (setL l s d) t = getL l t := by
  induction l with
  | nil =>
    simp only [setL]
    by_cases hd : d = (0, 0)
    · rw [if_pos hd]
    · rw [if_neg hd]; simp only [getL]; rw [if_neg (fun e => hne e.symm)]
  | cons r l ih =>
    simp only [setL]
    by_cases hl : less r.1 s = true
    · rw [if_pos hl]
      simp only [getL]
      rw [ih]
    · rw [if_neg hl]
      have hh : ∀ q : List Rf, getL ((if d = (0, 0) then [] else [(s, d)]) ++ q) t = getL q t := by
        intro q
        by_cases hd : d = (0, 0)
        · rw [if_pos hd]; rfl
        · rw [if_neg hd]
          show getL ((s, d) :: q) t = _
          simp only [getL]
          rw [if_neg (fun e => hne e.symm)]
      rw [hh]
      by_cases e : r.1 = s
      · rw [if_pos e]
        simp only [getL]
        rw [if_neg (fun e' => hne (e'.symm.trans e))]
      · rw [if_neg e]

/-- in order, and no name has the digest that means none -/
def OkL (l : List Rf) : Prop := Srt l ∧ ∀ r ∈ l, r.2 ≠ (0, 0)
theorem OkL.nil : OkL [] := ⟨List.Pairwise.nil, fun r h => by cases h⟩
theorem OkL.set {l : List Rf} (h : OkL l) (s : ByteArray) (d : Dig) : OkL (setL l s d) := by
  refine ⟨setL_srt s d h.1, ?_⟩
  have key : ∀ l : List Rf, (∀ r ∈ l, r.2 ≠ (0, 0)) → ∀ q ∈ setL l s d, q.2 ≠ (0, 0) := by
    intro l
    induction l with
    | nil =>
      intro _ q hq
      simp only [setL] at hq
      by_cases hd : d = (0, 0)
      · rw [if_pos hd] at hq; cases hq
      · rw [if_neg hd] at hq; rw [List.mem_singleton.1 hq]; exact hd
    | cons r l ih =>
      intro hl q hq
      simp only [setL] at hq
      by_cases hlt : less r.1 s = true
      · rw [if_pos hlt] at hq
        rcases List.mem_cons.1 hq with rfl | hq
        · exact hl _ (by simp)
        · exact ih (fun x hx => hl x (List.mem_cons_of_mem _ hx)) q hq
      · rw [if_neg hlt] at hq
        rcases List.mem_append.1 hq with hq | hq
        · by_cases hd : d = (0, 0)
          · rw [if_pos hd] at hq; cases hq
          · rw [if_neg hd] at hq; rw [List.mem_singleton.1 hq]; exact hd
        · by_cases e : r.1 = s
          · rw [if_pos e] at hq; exact hl q (List.mem_cons_of_mem _ hq)
          · rw [if_neg e] at hq; exact hl q hq
  exact key l h.2
theorem OkL.tail {r : Rf} {l : List Rf} (h : OkL (r :: l)) : OkL l := ⟨(List.pairwise_cons.1 h.1).2, fun q hq => h.2 q (List.mem_cons_of_mem _ hq)⟩
theorem getL_lt {r : Rf} {l : List Rf} (h : Srt (r :: l)) {s : ByteArray} (hs : less s r.1 = true) : getL (r :: l) s = (0, 0) := by
  refine getL_none (fun q hq => ?_)
  rcases List.mem_cons.1 hq with rfl | hq
  · exact fun e => less_ne hs e.symm
  · have := (List.pairwise_cons.1 h).1 q hq
    exact fun e => less_ne (less_trans _ _ _ hs this) e.symm
/-- what the names have says all -/
theorem okL_ext : ∀ {l m : List Rf}, OkL l → OkL m → (∀ s, getL l s = getL m s) → l = m
  | [], [], _, _, _ => rfl
  | [], q :: m, _, hm, h => by
    have := h q.1
    simp only [getL, if_true] at this
    exact absurd this.symm (hm.2 q (by simp))
  | r :: l, [], hl, _, h => by
    have := h r.1
    simp only [getL, if_true] at this
    exact absurd this (hl.2 r (by simp))
  | r :: l, q :: m, hl, hm, h => by
    have e1 : r.1 = q.1 := by
      refine less_conn' ?_ ?_
      · cases hx : less r.1 q.1 with
        | false => rfl
        | true =>
          have h1 := h r.1
          rw [getL_lt hm.1 hx] at h1
          simp only [getL, if_true] at h1
          exact absurd h1 (hl.2 r (by simp))
      · cases hx : less q.1 r.1 with
        | false => rfl
        | true =>
          have h1 := h q.1
          rw [getL_lt hl.1 hx] at h1
          simp only [getL, if_true] at h1
          exact absurd h1.symm (hm.2 q (by simp))
    have e2 : r.2 = q.2 := by
      have h1 := h r.1
      simp only [getL, if_true] at h1
      rwa [if_pos e1.symm] at h1
    have e : r = q := Prod.ext e1 e2
    subst e
    congr 1
    refine okL_ext hl.tail hm.tail (fun s => ?_)
    by_cases hs : r.1 = s
    · have n1 : ∀ (l : List Rf), Srt (r :: l) → getL l s = (0, 0) := fun l hl => getL_none (fun x hx e => by
        have := (List.pairwise_cons.1 hl).1 x hx
        rw [e, ← hs] at this
        exact less_ne this rfl)
      rw [n1 l hl.1, n1 m hm.1]
    · have h1 := h s
      simp only [getL] at h1
      rwa [if_neg hs, if_neg hs] at h1

theorem runU_ok : ∀ (us : List Upd) {l : List Rf}, OkL l → OkL (runU l us).1
  | [], _, h => h
  | u :: us, l, h => by
    rw [runU]
    by_cases he : errU l u ≠ 0
    · rw [if_pos he]; exact h
    · rw [if_neg he]; exact runU_ok us (h.set _ _)
theorem runU_app : ∀ (us vs : List Upd) (l : List Rf), runU l (us ++ vs) = if (runU l us).2 ≠ 0 then runU l us else runU (runU l us).1 vs
  | [], vs, l => by simp [runU]
  | u :: us, vs, l => by
    rw [List.cons_append, runU, runU]
    by_cases he : errU l u ≠ 0
    · rw [if_pos he, if_pos he, if_pos he]
    · rw [if_neg he, if_neg he]; exact runU_app us vs _
theorem applyU_eq : ∀ (us : List Upd) (l : List Rf) (log : List Upd), log.length + us.length ≤ 1000 → applyU l log us = if (runU l us).2 ≠ 0 then ([], [], (runU l us).2) else ((runU l us).1, log ++ us, 0)
  | [], l, log, _ => by simp [applyU, runU]
  | u :: us, l, log, h => by
    simp only [List.length_cons] at h
    rw [applyU, runU]
    by_cases he : errU l u ≠ 0
    · rw [if_pos he, if_pos he, if_pos he]
    · rw [if_neg he, if_neg he, if_neg (by omega), applyU_eq us _ _ (by simp; omega)]
      simp
theorem check_iff {rs : List Rf} {log : List Upd} (h : log.length ≤ 1000) : checkE rs log = 0 ↔ runU [] log = (rs, 0) := by
  unfold checkE
  rw [if_neg (by omega)]
  constructor
  · intro hh
    by_cases h2 : (runU [] log).2 ≠ 0
    · rw [if_pos h2] at hh; exact absurd hh h2
    · rw [if_neg h2] at hh
      by_cases h3 : (runU [] log).1 = rs
      · exact Prod.ext h3 (by simpa using h2)
      · rw [if_neg h3] at hh; cases hh
  · intro hh
    rw [hh]; simp
theorem check_ok {rs : List Rf} {log : List Upd} (h : checkE rs log = 0) : OkL rs := by
  have := (check_iff (check_len h)).1 h
  have h1 := runU_ok log OkL.nil
  rw [this] at h1
  exact h1
/-- what Apply hands back is valid -/
theorem apply_ok {rs : List Rf} {log us : List Upd} (hl : log.length + us.length ≤ 1000) (h : (applyR rs log us).2.2 = 0) :
    checkE rs log = 0 ∧ applyR rs log us = ((runU rs us).1, log ++ us, 0) ∧ (runU rs us).2 = 0 ∧ checkE (runU rs us).1 (log ++ us) = 0 := by
  unfold applyR at h ⊢
  by_cases hc : checkE rs log ≠ 0
  · rw [if_pos hc] at h; exact absurd h hc
  · rw [if_neg hc, applyU_eq _ _ _ hl] at h
    rw [if_neg hc, applyU_eq _ _ _ hl]
    have hc' : checkE rs log = 0 := by simpa using hc
    by_cases hr : (runU rs us).2 ≠ 0
    · rw [if_pos hr] at h; exact absurd h hr
    · rw [if_neg hr]
      refine ⟨hc', rfl, by simpa using hr, (check_iff (by simp; omega)).2 ?_⟩
      rw [runU_app, (check_iff (by omega)).1 hc']
      simp only [ne_eq, not_true, if_false]
      exact Prod.ext rfl (by simpa using hr)

/-! ### undo -/
def swapU (u : Upd) : Upd := (u.1, u.2.2, u.2.1)
def backU (us : List Upd) : List Upd := (us.map swapU).reverse
theorem err_swap {l : List Rf} {u : Upd} (hl : OkL l) (h : errU l u = 0) : errU (setL l u.1 u.2.2) (swapU u) = 0 ∧ setL (setL l u.1 u.2.2) u.1 u.2.1 = l := by
  unfold errU at h
  by_cases hp : properE u ≠ 0
  · rw [if_pos hp] at h; exact absurd h hp
  · rw [if_neg hp] at h
    by_cases hg : getL l u.1 ≠ u.2.1
    · rw [if_pos hg] at h; cases h
    · have hg' : getL l u.1 = u.2.1 := by simpa using hg
      have hp' : properE (swapU u) = 0 := by
        have hp2 : properE u = 0 := by simpa using hp
        unfold properE at hp2 ⊢
        show (if nameB u.1 then (if u.2.2 = u.2.1 then (1 : Int) else 0) else 6) = 0
        by_cases hn : nameB u.1 = true
        · rw [if_pos hn] at hp2 ⊢
          by_cases he : u.2.1 = u.2.2
          · rw [if_pos he] at hp2; cases hp2
          · rw [if_neg (fun e => he e.symm)]
        · rw [if_neg hn] at hp2; cases hp2
      refine ⟨?_, okL_ext ((hl.set _ _).set _ _) hl (fun s => ?_)⟩
      · unfold errU
        rw [if_neg (by rw [hp']; simp), if_neg]
        show ¬ (getL (setL l u.1 u.2.2) u.1 ≠ u.2.2)
        rw [getL_self hl.1]; simp
      · by_cases hs : s = u.1
        · rw [hs, getL_self (hl.set _ _).1, hg']
        · rw [getL_other hs, getL_other hs]
theorem undo : ∀ (us : List Upd) {l l' : List Rf}, OkL l → runU l us = (l', 0) → runU l' (backU us) = (l, 0)
  | [], l, l', _, h => by
    have : l = l' := congrArg Prod.fst h
    rw [this]; rfl
  | u :: us, l, l', hl, h => by
    rw [runU] at h
    by_cases he : errU l u ≠ 0
    · rw [if_pos he] at h
      exact absurd (congrArg Prod.snd h) he
    · rw [if_neg he] at h
      have ih := undo us (hl.set _ _) h
      obtain ⟨e1, e2⟩ := err_swap hl (by simpa using he)
      have hb : backU (u :: us) = backU us ++ [swapU u] := by simp [backU]
      rw [hb, runU_app, ih]
      simp only [ne_eq, not_true, if_false]
      rw [runU, e1]
      simp only [ne_eq, not_true, if_false]
      show runU (setL (setL l u.1 u.2.2) u.1 u.2.1) [] = _
      rw [e2]; rfl
theorem undo_all {rs : List Rf} {log us : List Upd} (hl : log.length ≤ 12) (hu : us.length ≤ 12) (h : (applyR rs log us).2.2 = 0) :
    applyR (applyR rs log us).1 (applyR rs log us).2.1 (backU us) = (rs, log ++ us ++ backU us, 0) := by
  obtain ⟨h1, h2, h3, h4⟩ := apply_ok (by omega) h
  have hb : (backU us).length = us.length := by simp [backU]
  have hr := undo us (check_ok h1) (l' := (runU rs us).1) (Prod.ext rfl h3)
  rw [h2]
  show applyR (runU rs us).1 (log ++ us) (backU us) = _
  unfold applyR
  rw [if_neg (by rw [h4]; simp), applyU_eq _ _ _ (by rw [hb]; simp; omega), hr]
  simp

/-! ### one after the other -/
theorem step_check {l : List Rf} {lg : List Upd} {u : Upd} (hc : checkE l lg = 0) (hs : (stepU l lg u).2.2 = 0) : checkE (stepU l lg u).1 (stepU l lg u).2.1 = 0 := by
  have hlen := check_len hc
  have hr := (check_iff hlen).1 hc
  unfold stepU at hs ⊢
  by_cases he : errU l u ≠ 0
  · rw [if_pos he] at hs; exact absurd hs he
  · rw [if_neg he] at hs ⊢
    by_cases hm : 1000 ≤ lg.length
    · rw [if_pos hm] at hs; cases hs
    · rw [if_neg hm]
      show checkE (setL l u.1 u.2.2) (lg ++ [u]) = 0
      rw [check_iff (by simp; omega), runU_app, hr]
      simp only [ne_eq, not_true, if_false]
      rw [runU, if_neg he]; rfl
end Go.Proofs.YtikmiabncbhioaaDoor
