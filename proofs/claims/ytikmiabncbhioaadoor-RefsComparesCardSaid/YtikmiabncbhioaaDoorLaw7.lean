/-
  Plain laws on Get and Update.
-/
import Derived.Test.YtikmiabncbhioaaDoorGGet
namespace Go.Proofs.YtikmiabncbhioaaDoor

theorem getR_ok {rs : List Rf} {log : List Upd} {s : ByteArray} (h : checkE rs log = 0) : getR rs log s = if nameB s then (getL rs s, if getL rs s = (0, 0) then 8 else 0) else ((0, 0), 6) := by
  unfold getR
  rw [h, if_neg (by simp)]
  by_cases hn : nameB s = true
  · rw [if_pos hn, if_pos hn]
    by_cases hg : getL rs s = (0, 0)
    · rw [if_pos hg, if_pos hg, hg]
    · rw [if_neg hg, if_neg hg]
  · rw [if_neg hn, if_neg hn]
theorem update_err {rs : List Rf} {log : List Upd} {u : Upd} (h : checkE rs log = 0) (hl : log.length ≤ 12) :
    updateR rs log u = if errU rs u ≠ 0 then ([], [], errU rs u) else (setL rs u.1 u.2.2, log ++ [u], 0) := by
  unfold updateR stepU
  rw [h, if_neg (by simp)]
  by_cases he : errU rs u ≠ 0
  · rw [if_pos he, if_pos he]
  · rw [if_neg he, if_neg he, if_neg (by omega)]
theorem errU_zero {rs : List Rf} {u : Upd} : errU rs u = 0 ↔ nameB u.1 = true ∧ u.2.1 ≠ u.2.2 ∧ getL rs u.1 = u.2.1 := by
  unfold errU properE
  by_cases hn : nameB u.1 = true
  · by_cases he : u.2.1 = u.2.2
    · simp [hn, he]
    · by_cases hg : getL rs u.1 = u.2.1
      · simp [hn, he, hg]
      · simp [hn, he, hg]
  · simp [hn]
theorem fits_iff {rs : List Rf} {log : List Upd} {u : Upd} (h : checkE rs log = 0) (hl : log.length ≤ 12) :
    (updateR rs log u).2.2 = 0 ↔ ((getR rs log u.1).2 ≠ 6 ∧ u.2.1 ≠ u.2.2 ∧ (getR rs log u.1).1 = u.2.1) := by
  rw [update_err h hl, getR_ok h]
  have h1 : ((if errU rs u ≠ 0 then (([] : List Rf), ([] : List Upd), errU rs u) else (setL rs u.1 u.2.2, log ++ [u], 0)).2.2 = 0) ↔ errU rs u = 0 := by
    by_cases he : errU rs u = 0
    · simp [he]
    · simp [he]
  rw [h1, errU_zero]
  by_cases hn : nameB u.1 = true
  · rw [if_pos hn]
    have : (if getL rs u.1 = (0, 0) then (8 : Int) else 0) ≠ 6 := by split <;> simp
    simp [hn, this]
  · simp [hn]
theorem after_get {rs : List Rf} {log : List Upd} {u : Upd} (h : checkE rs log = 0) (hl : log.length ≤ 12) (hu : (updateR rs log u).2.2 = 0) :
    (getR (updateR rs log u).1 (updateR rs log u).2.1 u.1).1 = u.2.2 ∧ ((getR (updateR rs log u).1 (updateR rs log u).2.1 u.1).2 = 0 ↔ u.2.2 ≠ (0, 0)) ∧
      (∀ t, t ≠ u.1 → getR (updateR rs log u).1 (updateR rs log u).2.1 t = getR rs log t) ∧ (updateR rs log u).2.1 = log ++ [u] := by
  have hst : (stepU rs log u).2.2 = 0 ∧ updateR rs log u = stepU rs log u := by
    have : updateR rs log u = stepU rs log u := by unfold updateR; rw [h, if_neg (by simp)]
    rw [this] at hu
    exact ⟨hu, this⟩
  have hc := step_check h hst.1
  rw [← hst.2] at hc
  have he : errU rs u = 0 := by
    rw [update_err h hl] at hu
    by_cases he : errU rs u = 0
    · exact he
    · rw [if_pos he] at hu; exact hu
  rw [update_err h hl, he] at hc ⊢
  simp only [ne_eq, not_true, if_false] at hc ⊢
  have hok := check_ok h
  have hz := errU_zero.1 he
  refine ⟨?_, ?_, fun t ht => ?_, trivial⟩
  · rw [getR_ok hc, if_pos hz.1, getL_self hok.1]
  · rw [getR_ok hc, if_pos hz.1, getL_self hok.1]
    by_cases hn : u.2.2 = (0, 0)
    · simp [hn]
    · simp [hn]
  · rw [getR_ok hc, getR_ok h, getL_other ht]
end Go.Proofs.YtikmiabncbhioaaDoor
