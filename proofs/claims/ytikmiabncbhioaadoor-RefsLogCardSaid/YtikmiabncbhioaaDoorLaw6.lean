/-
  Plain laws on Apply and At; an append at a step of a region that draws its order.
-/
import Derived.Test.YtikmiabncbhioaaDoorAt
namespace Go.Proofs.YtikmiabncbhioaaDoor
open Go.RowKit

theorem applyU_err : ∀ (us : List Upd) (l : List Rf) (log : List Upd), (applyU l log us).2.2 ≠ 0 → applyU l log us = ([], [], (applyU l log us).2.2)
  | [], l, log, h => absurd rfl h
  | u :: us, l, log, h => by
    simp only [applyU] at h ⊢
    by_cases h1 : errU l u ≠ 0
    · rw [if_pos h1]
    · rw [if_neg h1] at h ⊢
      by_cases h2 : 1000 ≤ log.length
      · rw [if_pos h2]
      · rw [if_neg h2] at h ⊢
        exact applyU_err us _ _ h
theorem applyR_err {rs : List Rf} {log us : List Upd} (h : (applyR rs log us).2.2 ≠ 0) : applyR rs log us = ([], [], (applyR rs log us).2.2) := by
  unfold applyR at h ⊢
  by_cases h1 : checkE rs log ≠ 0
  · rw [if_pos h1]
  · rw [if_neg h1] at h ⊢
    exact applyU_err us rs log h
/-- what the refs at a place of the log are, if the refs are valid -/
theorem atR_ok {rs : List Rf} {log : List Upd} (h : checkE rs log = 0) {k : Nat} (hk : k ≤ log.length) : atR rs log (k : Int) = ((runU [] (log.take k)).1, 0) := by
  unfold atR
  rw [h, if_neg (by simp), if_neg (by omega), Int.toNat_natCast]
  exact Prod.ext rfl (take_ok h k)
theorem atR_end {rs : List Rf} {log : List Upd} (h : checkE rs log = 0) : atR rs log (log.length : Int) = (rs, 0) := by
  rw [atR_ok h (Nat.le_refl _), List.take_length, (check_iff (check_len h)).1 h]

section
variable {P : Program} {w : World} {base size n c : Nat} {e : TypeId} {A : Option Addr} {xs : List Value}
theorem step_append_apd {ops : Array Oper} {o : Oper} {a : Act} {K : Act → World → Prop} {Q : Exit → Act → World → Prop} {E : Prop} (hgd : o.guard = none) (s x : Operand) (t : TypeId)
    (ho : o.op = .call { callee := .builtin .append, args := #[s, x], argTypes := #[t, t] })
    (base : Nat) (e : TypeId) (i : TypeInfo) (z : Value) (size bytes : Nat) (ht : P.underlying t = some (.slice e)) (hi : P.info? e = some i) (hz : i.zero = some z)
    (hsize : i.size = size) (hby : i.bytes = bytes) (hzs : z.cells.size = size) (hsz : 0 < size)
    (A : Option Addr) (n c : Nat) (xs : List Value) (hs : a.eval s = .slice A n c) (hown : Apd w base e size A n c xs)
    (B : Nat) (A' : Option Addr) (m c' : Nat) (ys : List Value) (hx : a.eval x = .slice A' m c') (hsl : Sl w B size A' m ys) (h1 : ∀ u ∈ ys, u.oneCell' = true)
    (h63 : n + m ≤ maxLen) (hbytes : (n + m) * bytes ≤ 140737488355328) (hbase : base ≤ w.heap.size)
    (h : ∀ A2 c2 w', Apd w' base e size A2 (n + m) c2 (xs ++ ys) → Below base w w' → n + m ≤ c2 → c2 ≤ maxLen → K (a.put o.dst (.slice A2 (n + m) c2)) w') :
    if Region.wanted o (yielded ops a.tmps) = true then Oper.wp P o a w K Q else E := by
  have hw : Region.wanted o (yielded ops a.tmps) = true := by simp [Region.wanted, hgd]
  rw [if_pos hw]
  obtain ⟨A2, c2, w', hr, ho', hg, hc1, hc2, _⟩ := run_append_apd (P := P) t o.type i z bytes ht hi hz hsize hby hzs hsz hown (c' := c') hsl h1 h63 hbytes hbase
  unfold Oper.wp
  simp [execOp, ho, resolve, invoke, builtin, hs, hx, hr, Result.andThen]
  exact h A2 c2 w' ho' hg hc1 hc2
/-- the same, onto a slice that is empty and has no capacity -/
theorem step_append_emp {ops : Array Oper} {o : Oper} {a : Act} {K : Act → World → Prop} {Q : Exit → Act → World → Prop} {E : Prop} (hgd : o.guard = none) (s x : Operand) (t : TypeId)
    (ho : o.op = .call { callee := .builtin .append, args := #[s, x], argTypes := #[t, t] })
    (base : Nat) (e : TypeId) (i : TypeInfo) (z : Value) (size bytes : Nat) (ht : P.underlying t = some (.slice e)) (hi : P.info? e = some i) (hz : i.zero = some z)
    (hsize : i.size = size) (hby : i.bytes = bytes) (hzs : z.cells.size = size) (hsz : 0 < size)
    (A : Option Addr) (hs : a.eval s = .slice A 0 0)
    (B : Nat) (A' : Option Addr) (m c' : Nat) (ys : List Value) (hx : a.eval x = .slice A' m c') (hsl : Sl w B size A' m ys) (h1 : ∀ u ∈ ys, u.oneCell' = true)
    (h63 : m ≤ maxLen) (hbytes : m * bytes ≤ 140737488355328) (hbase : base ≤ w.heap.size)
    (h : ∀ A2 c2 w', Apd w' base e size A2 m c2 ys → Below w.heap.size w w' → m ≤ c2 → c2 ≤ maxLen → K (a.put o.dst (.slice A2 m c2)) w') :
    if Region.wanted o (yielded ops a.tmps) = true then Oper.wp P o a w K Q else E := by
  have hw : Region.wanted o (yielded ops a.tmps) = true := by simp [Region.wanted, hgd]
  rw [if_pos hw]
  obtain ⟨A2, c2, w', hr, ho', hg, hc1, hc2⟩ := run_append_empty (P := P) (base := base) t o.type i z bytes ht hi hz hsize hby hzs hsz (c' := c') hsl h1 h63 hbytes hbase A
  unfold Oper.wp
  simp [execOp, ho, resolve, invoke, builtin, hs, hx, hr, Result.andThen]
  exact h A2 c2 w' ho' hg hc1 hc2
end
end Go.Proofs.YtikmiabncbhioaaDoor
