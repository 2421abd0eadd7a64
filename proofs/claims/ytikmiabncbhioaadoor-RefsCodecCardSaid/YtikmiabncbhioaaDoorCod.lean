/-
  Encodings of numbers, texts, digests and updates as lists of bytes, in plain Lean, and that reading undoes writing. No program in sight.
-/
import Derived.Test.YtikmiabncbhioaaDoorSpec
namespace Go.Proofs.YtikmiabncbhioaaDoor
open Go.RowKit

abbrev Bytes := List UInt8
def ofL (l : Bytes) : ByteArray := ⟨l.toArray⟩
def toL (s : ByteArray) : Bytes := s.data.toList
theorem toL_ofL (l : Bytes) : toL (ofL l) = l := rfl
theorem ofL_toL (s : ByteArray) : ofL (toL s) = s := by cases s; simp [ofL, toL]
theorem size_toL (s : ByteArray) : s.size = (toL s).length := by cases s; rfl
theorem size_ofL (l : Bytes) : (ofL l).size = l.length := rfl

/-! ### numbers -/
def encN (n : Nat) : Bytes := if n < 128 then [UInt8.ofNat n] else UInt8.ofNat (n % 128 + 128) :: encN (n / 128)
  termination_by n
  decreasing_by omega
theorem encN_small {n : Nat} (h : n < 128) : encN n = [UInt8.ofNat n] := by rw [encN, if_pos h]
theorem encN_big {n : Nat} (h : ¬ n < 128) : encN n = UInt8.ofNat (n % 128 + 128) :: encN (n / 128) := by rw [encN, if_neg h]
theorem encN_pos (n : Nat) : 0 < (encN n).length := by
  by_cases h : n < 128
  · rw [encN_small h]; simp
  · rw [encN_big h]; simp
theorem encN_len : ∀ (k n : Nat), n < 128 ^ (k + 1) → (encN n).length ≤ k + 1
  | 0, n, h => by rw [encN_small (by simpa using h)]; simp
  | k + 1, n, h => by
    by_cases hs : n < 128
    · rw [encN_small hs]; simp
    · rw [encN_big hs, List.length_cons]
      have := encN_len k (n / 128) (by rw [Nat.div_lt_iff_lt_mul (by omega)]; rw [Nat.pow_succ] at h; omega)
      omega
theorem toNat_ofNat8 {n : Nat} (h : n < 256) : (UInt8.ofNat n).toNat = n := by simp [UInt8.toNat_ofNat']; omega

/-- reading a number, f digits at most, after i digits that gave n, the next digit's weight u -/
def gi : Nat → Nat → Nat → Nat → Bytes → Nat × Nat × Int
  | 0, _, _, _, _ => (0, 0, 13)
  | _ + 1, _, _, _, [] => (0, 0, 12)
  | f + 1, i, n, u, d :: r =>
    if d.toNat < 128 then (if (d.toNat = 0 ∧ 0 < i) ∨ 1099511627776 < n + d.toNat * u then (0, 0, 13) else (n + d.toNat * u, i + 1, 0))
    else gi f (i + 1) (n + (d.toNat - 128) * u) (u * 128) r
def getI (l : Bytes) : Nat × Nat × Int := gi 6 0 0 1 l

theorem gi_enc : ∀ (f i n u m : Nat) (r : Bytes), (encN m).length ≤ f → n + m * u ≤ 1099511627776 → (i = 0 ∨ 0 < m) → gi f i n u (encN m ++ r) = (n + m * u, i + (encN m).length, 0)
  | 0, i, n, u, m, r, h, _, _ => by have := encN_pos m; omega
  | f + 1, i, n, u, m, r, h, hm, hi => by
    by_cases hs : m < 128
    · have e := toNat_ofNat8 (n := m) (by omega)
      rw [encN_small hs, List.cons_append, gi, e, if_pos hs, if_neg (by omega)]; rfl
    · have e := toNat_ofNat8 (n := m % 128 + 128) (by omega)
      rw [encN_big hs] at h ⊢
      have e1 : n + (m % 128 + 128 - 128) * u + m / 128 * (u * 128) = n + m * u := by
        have : m * u = (128 * (m / 128) + m % 128) * u := by rw [Nat.div_add_mod]
        rw [this, Nat.add_sub_cancel, Nat.add_mul, Nat.mul_comm u 128, ← Nat.mul_assoc, Nat.mul_comm (m / 128) 128]; omega
      rw [List.cons_append, gi, e, if_neg (by omega), gi_enc f (i + 1) _ _ (m / 128) r (by simp at h; omega) (by omega) (.inr (by omega)), e1]
      simp only [List.length_cons, Prod.mk.injEq, and_true, true_and]; omega
theorem gi_inv : ∀ (f i n u : Nat) (l : Bytes) (x k : Nat), gi f i n u l = (x, k, 0) → ∃ m r, l = encN m ++ r ∧ k = i + (encN m).length ∧ x = n + m * u ∧ (i = 0 ∨ 0 < m) ∧ x ≤ 1099511627776
  | 0, i, n, u, l, x, k, h => by simp [gi] at h
  | f + 1, i, n, u, [], x, k, h => by simp [gi] at h
  | f + 1, i, n, u, d :: r, x, k, h => by
    rw [gi] at h
    by_cases hs : d.toNat < 128
    · rw [if_pos hs] at h
      by_cases hc : (d.toNat = 0 ∧ 0 < i) ∨ 1099511627776 < n + d.toNat * u
      · rw [if_pos hc] at h; simp at h
      · rw [if_neg hc] at h
        simp only [Prod.mk.injEq, and_true] at h
        refine ⟨d.toNat, r, ?_, ?_, h.1.symm, by omega, by omega⟩
        · rw [encN_small hs]; simp
        · rw [encN_small hs]; simp; omega
    · rw [if_neg hs] at h
      obtain ⟨m, r', rfl, hk, hx, hm, hM⟩ := gi_inv f (i + 1) _ _ r x k h
      have hm' : 0 < m := by omega
      have hd : d.toNat < 256 := d.toNat_lt
      have hb : ¬ (d.toNat - 128 + 128 * m) < 128 := by omega
      have e1 : (d.toNat - 128 + 128 * m) % 128 + 128 = d.toNat := by omega
      have e2 : (d.toNat - 128 + 128 * m) / 128 = m := by omega
      refine ⟨d.toNat - 128 + 128 * m, r', ?_, ?_, ?_, by omega, hM⟩
      · rw [encN_big hb, e1, e2]; simp
      · rw [encN_big hb, e1, e2]; simp; omega
      · rw [hx, Nat.add_mul, Nat.mul_comm u 128, ← Nat.mul_assoc, Nat.mul_comm m 128]; omega
theorem getI_enc {m : Nat} (h : m ≤ 1099511627776) (r : Bytes) : getI (encN m ++ r) = (m, (encN m).length, 0) := by
  have hl : (encN m).length ≤ 6 := encN_len 5 m (by omega)
  have := gi_enc 6 0 0 1 m r hl (by omega) (.inl rfl)
  unfold getI; rw [this]; simp
theorem getI_inv {l : Bytes} {x k : Nat} (h : getI l = (x, k, 0)) : ∃ r, l = encN x ++ r ∧ k = (encN x).length ∧ x ≤ 1099511627776 := by
  obtain ⟨m, r, h1, h2, h3, _, h5⟩ := gi_inv 6 0 0 1 l x k h
  have : x = m := by omega
  subst this
  exact ⟨r, h1, by omega, h5⟩
theorem gi_le : ∀ (f i n u : Nat) (l : Bytes), (gi f i n u l).2.1 ≤ i + l.length
  | 0, i, n, u, l => by simp [gi]
  | f + 1, i, n, u, [] => by simp [gi]
  | f + 1, i, n, u, d :: r => by
    rw [gi]
    split
    · split <;> simp
    · have := gi_le f (i + 1) (n + (d.toNat - 128) * u) (u * 128) r; simp; omega
theorem getI_le (l : Bytes) : (getI l).2.1 ≤ l.length := by have := gi_le 6 0 0 1 l; unfold getI; omega
theorem gi_max : ∀ (f i n u : Nat) (l : Bytes), (gi f i n u l).1 ≤ 1099511627776
  | 0, i, n, u, l => by simp [gi]
  | f + 1, i, n, u, [] => by simp [gi]
  | f + 1, i, n, u, d :: r => by
    rw [gi]
    split
    · split
      · simp
      · simp; omega
    · exact gi_max f _ _ _ r
theorem getI_max (l : Bytes) : (getI l).1 ≤ 1099511627776 := gi_max 6 0 0 1 l

/-! ### texts -/
def getT (l : Bytes) : Bytes × Nat × Int :=
  if (getI l).2.2 ≠ 0 then ([], 0, (getI l).2.2) else if 65536 < (getI l).1 then ([], 0, 13) else if l.length < (getI l).2.1 + (getI l).1 then ([], 0, 12)
  else ((l.drop (getI l).2.1).take (getI l).1, (getI l).2.1 + (getI l).1, 0)
def encT (t : Bytes) : Bytes := encN t.length ++ t
theorem getT_enc {t : Bytes} (h : t.length ≤ 65536) (r : Bytes) : getT (encT t ++ r) = (t, (encT t).length, 0) := by
  have := getI_enc (m := t.length) (by omega) (t ++ r)
  unfold getT encT
  rw [List.append_assoc, this]
  simp only [ne_eq, not_true, if_false]
  rw [if_neg (by omega), if_neg (by simp)]
  simp
theorem getT_inv {l t : Bytes} {k : Nat} (h : getT l = (t, k, 0)) : ∃ r, l = encT t ++ r ∧ k = (encT t).length ∧ t.length ≤ 65536 := by
  unfold getT at h
  by_cases h1 : (getI l).2.2 ≠ 0
  · rw [if_pos h1] at h; simp at h; exact absurd h.2.2 h1
  · rw [if_neg h1] at h
    by_cases h2 : 65536 < (getI l).1
    · rw [if_pos h2] at h; simp at h
    · rw [if_neg h2] at h
      by_cases h3 : l.length < (getI l).2.1 + (getI l).1
      · rw [if_pos h3] at h; simp at h
      · rw [if_neg h3] at h
        generalize hg : getI l = g at *
        obtain ⟨n, m, e⟩ := g
        have he : e = 0 := by simpa using h1
        subst he
        obtain ⟨r, rfl, rfl, _⟩ := getI_inv hg
        simp only [Prod.mk.injEq, and_true] at h h2 h3
        simp only [List.drop_left, List.length_append] at h h3
        have hl : (r.take n).length = n := by rw [List.length_take]; omega
        rw [← h.1, ← h.2]
        refine ⟨r.drop n, ?_, ?_, by omega⟩
        · unfold encT; rw [hl, List.append_assoc, List.take_append_drop]
        · unfold encT; rw [hl, List.length_append, hl]
theorem getT_le (l : Bytes) : (getT l).2.1 ≤ l.length := by
  unfold getT
  split
  · simp
  · split
    · simp
    · split
      · simp
      · simp; omega

/-! ### digests -/
def be : Nat → Nat → Bytes
  | 0, _ => []
  | k + 1, n => UInt8.ofNat (n / 256 ^ k % 256) :: be k n
def valF (a : Nat) (l : Bytes) : Nat := l.foldl (fun a b => a * 256 + b.toNat) a
theorem be_len : ∀ (k n : Nat), (be k n).length = k
  | 0, _ => rfl
  | k + 1, n => by simp [be, be_len k n]
theorem valF_be : ∀ (k n a : Nat), valF a (be k n) = a * 256 ^ k + n % 256 ^ k
  | 0, n, a => by simp [valF, be]; omega
  | k + 1, n, a => by
    have e := toNat_ofNat8 (n := n / 256 ^ k % 256) (by omega)
    show valF (a * 256 + (UInt8.ofNat (n / 256 ^ k % 256)).toNat) (be k n) = _
    rw [valF_be k n, e, Nat.pow_succ, Nat.mod_mul, Nat.add_mul, Nat.mul_assoc, Nat.mul_comm 256 (256 ^ k), Nat.mul_comm (n / 256 ^ k % 256)]; omega
theorem valF_lt : ∀ (l : Bytes) (a : Nat), valF a l < (a + 1) * 256 ^ l.length
  | [], a => by simp [valF]
  | d :: l, a => by
    show valF (a * 256 + d.toNat) l < _
    have h := valF_lt l (a * 256 + d.toNat)
    have hd : d.toNat < 256 := d.toNat_lt
    refine Nat.lt_of_lt_of_le h ?_
    rw [List.length_cons, Nat.pow_succ, Nat.mul_comm (256 ^ l.length) 256, ← Nat.mul_assoc]
    exact Nat.mul_le_mul_right _ (by omega)
theorem valF_split : ∀ (l : Bytes) (a : Nat), valF a l = a * 256 ^ l.length + valF 0 l
  | [], a => by simp [valF]
  | d :: l, a => by
    show valF (a * 256 + d.toNat) l = a * 256 ^ (l.length + 1) + valF (0 * 256 + d.toNat) l
    rw [Nat.zero_mul, Nat.zero_add, valF_split l (a * 256 + d.toNat), valF_split l d.toNat, Nat.pow_succ, Nat.add_mul, Nat.mul_comm (256 ^ l.length) 256, ← Nat.mul_assoc]; omega
theorem be_val : ∀ (l : Bytes) (c : Nat), be l.length (c * 256 ^ l.length + valF 0 l) = l
  | [], c => rfl
  | d :: l, c => by
    have hd : d.toNat < 256 := d.toNat_lt
    have hv : valF 0 l < 256 ^ l.length := by have := valF_lt l 0; simpa using this
    have e : c * 256 ^ (l.length + 1) + valF 0 (d :: l) = (c * 256 + d.toNat) * 256 ^ l.length + valF 0 l := by
      show _ + valF (0 * 256 + d.toNat) l = _
      rw [Nat.zero_mul, Nat.zero_add, valF_split l d.toNat, Nat.pow_succ, Nat.add_mul, Nat.mul_comm (256 ^ l.length) 256, ← Nat.mul_assoc]; omega
    have hpos : 0 < 256 ^ l.length := Nat.pow_pos (by omega)
    show UInt8.ofNat ((c * 256 ^ (l.length + 1) + valF 0 (d :: l)) / 256 ^ l.length % 256) :: be l.length (c * 256 ^ (l.length + 1) + valF 0 (d :: l)) = _
    rw [e, be_val l (c * 256 + d.toNat)]
    congr 1
    rw [Nat.mul_comm (c * 256 + d.toNat), Nat.mul_add_div hpos, Nat.div_eq_of_lt hv]
    have : (c * 256 + d.toNat + 0) % 256 = d.toNat := by omega
    rw [this]; simp
def WfD (d : Dig) : Prop := 0 ≤ d.1 ∧ d.1 < 18446744073709551616 ∧ 0 ≤ d.2 ∧ d.2 < 18446744073709551616
def digB (d : Dig) : Bytes := be 8 d.1.toNat ++ be 8 d.2.toNat
def dg (l : Bytes) : Dig := ((valF 0 (l.take 8) : Int), (valF 0 ((l.drop 8).take 8) : Int))
theorem digB_len (d : Dig) : (digB d).length = 16 := by simp [digB, be_len]
theorem dg_digB {d : Dig} (h : WfD d) (r : Bytes) : dg (digB d ++ r) = d := by
  have e1 : ((digB d ++ r).take 8) = be 8 d.1.toNat := by
    unfold digB; rw [List.append_assoc, List.take_left' (be_len _ _)]
  have e2 : (((digB d ++ r).drop 8).take 8) = be 8 d.2.toNat := by
    unfold digB; rw [List.append_assoc, List.drop_left' (be_len _ _), List.take_left' (be_len _ _)]
  unfold dg
  rw [e1, e2, valF_be, valF_be]
  obtain ⟨a, b⟩ := d
  obtain ⟨h1, h2, h3, h4⟩ := h
  simp only at h1 h2 h3 h4 ⊢
  refine Prod.ext ?_ ?_
  · show ((0 * 256 ^ 8 + a.toNat % 256 ^ 8 : Nat) : Int) = a
    omega
  · show ((0 * 256 ^ 8 + b.toNat % 256 ^ 8 : Nat) : Int) = b
    omega
theorem digB_dg {l : Bytes} (h : 16 ≤ l.length) : digB (dg l) = l.take 16 := by
  have h1 : (l.take 8).length = 8 := by rw [List.length_take]; omega
  have h2 : ((l.drop 8).take 8).length = 8 := by rw [List.length_take, List.length_drop]; omega
  have e1 := be_val (l.take 8) 0
  have e2 := be_val ((l.drop 8).take 8) 0
  rw [h1] at e1
  rw [h2] at e2
  simp only [Nat.zero_mul, Nat.zero_add] at e1 e2
  unfold digB dg
  simp only [Int.toNat_natCast]
  rw [e1, e2, ← List.take_add]
theorem wf_dg (l : Bytes) : WfD (dg l) := by
  have h1 := valF_lt (l.take 8) 0
  have h2 := valF_lt ((l.drop 8).take 8) 0
  have l1 : (l.take 8).length ≤ 8 := by rw [List.length_take]; omega
  have l2 : ((l.drop 8).take 8).length ≤ 8 := by rw [List.length_take]; omega
  have p1 : 256 ^ (l.take 8).length ≤ 256 ^ 8 := Nat.pow_le_pow_right (by omega) l1
  have p2 : 256 ^ ((l.drop 8).take 8).length ≤ 256 ^ 8 := Nat.pow_le_pow_right (by omega) l2
  refine ⟨?_, ?_, ?_, ?_⟩ <;> simp only [dg] <;> omega

/-! ### updates -/
def WfU (u : Upd) : Prop := WfD u.2.1 ∧ WfD u.2.2
def encU (u : Upd) : Bytes := encT (toL u.1) ++ digB u.2.1 ++ digB u.2.2
def rdU (l : Bytes) : Option (Upd × Bytes) :=
  if (getT l).2.2 ≠ 0 ∨ l.length < (getT l).2.1 + 32 then none else some ((ofL (getT l).1, dg (l.drop (getT l).2.1), dg (l.drop ((getT l).2.1 + 16))), l.drop ((getT l).2.1 + 32))
theorem rdU_enc {u : Upd} (h : u.1.size ≤ 65536) (hw : WfU u) (r : Bytes) : rdU (encU u ++ r) = some (u, r) := by
  have hg := getT_enc (t := toL u.1) (by rw [← size_toL]; exact h) (digB u.2.1 ++ (digB u.2.2 ++ r))
  have e : encU u ++ r = encT (toL u.1) ++ (digB u.2.1 ++ (digB u.2.2 ++ r)) := by simp [encU, List.append_assoc]
  have d1 : (encT (toL u.1) ++ (digB u.2.1 ++ (digB u.2.2 ++ r))).drop (encT (toL u.1)).length = digB u.2.1 ++ (digB u.2.2 ++ r) := List.drop_left
  have d2 : (encT (toL u.1) ++ (digB u.2.1 ++ (digB u.2.2 ++ r))).drop ((encT (toL u.1)).length + 16) = digB u.2.2 ++ r := by
    rw [← List.drop_drop, d1, List.drop_left' (digB_len _)]
  have d3 : (encT (toL u.1) ++ (digB u.2.1 ++ (digB u.2.2 ++ r))).drop ((encT (toL u.1)).length + 32) = r := by
    rw [show (encT (toL u.1)).length + 32 = (encT (toL u.1)).length + 16 + 16 from rfl, ← List.drop_drop, d2, List.drop_left' (digB_len _)]
  unfold rdU
  rw [e, hg]
  simp only [ne_eq, not_true, false_or]
  rw [if_neg (by simp [digB_len]; omega), d1, d2, d3, dg_digB hw.1, dg_digB hw.2, ofL_toL]
theorem rdU_inv {l : Bytes} {u : Upd} {r : Bytes} (h : rdU l = some (u, r)) : l = encU u ++ r ∧ u.1.size ≤ 65536 ∧ WfU u := by
  unfold rdU at h
  by_cases hc : (getT l).2.2 ≠ 0 ∨ l.length < (getT l).2.1 + 32
  · rw [if_pos hc] at h; cases h
  · rw [if_neg hc] at h
    generalize hg : getT l = g at *
    obtain ⟨t, k, e⟩ := g
    have he : e = 0 := by
      rcases Decidable.em (e = 0) with h' | h'
      · exact h'
      · exact absurd (.inl h') hc
    subst he
    obtain ⟨q, rfl, rfl, ht⟩ := getT_inv hg
    simp only [Option.some.injEq, Prod.mk.injEq] at h
    obtain ⟨rfl, rfl⟩ := h
    have hq : 32 ≤ q.length := by simp at hc; omega
    have d1 : (encT t ++ q).drop (encT t).length = q := List.drop_left
    have d2 : (encT t ++ q).drop ((encT t).length + 16) = q.drop 16 := by rw [← List.drop_drop, d1]
    have d3 : (encT t ++ q).drop ((encT t).length + 32) = q.drop 32 := by rw [← List.drop_drop, d1]
    rw [d1, d2, d3]
    refine ⟨?_, by rw [size_ofL]; exact ht, wf_dg _, wf_dg _⟩
    unfold encU
    simp only [toL_ofL]
    rw [digB_dg (by omega), digB_dg (by rw [List.length_drop]; omega), List.append_assoc, List.append_assoc]
    congr 1
    rw [← List.append_assoc, ← List.take_add, List.take_append_drop]
def encL (us : List Upd) : Bytes := us.flatMap encU
def rdL : Nat → Bytes → Option (List Upd × Bytes)
  | 0, l => some ([], l)
  | n + 1, l => match rdU l with
    | none => none
    | some (u, r) => match rdL n r with
      | none => none
      | some (us, q) => some (u :: us, q)
theorem rdL_enc : ∀ (us : List Upd) (r : Bytes), (∀ u ∈ us, u.1.size ≤ 65536 ∧ WfU u) → rdL us.length (encL us ++ r) = some (us, r)
  | [], r, _ => rfl
  | u :: us, r, h => by
    have h1 := rdU_enc (h u (by simp)).1 (h u (by simp)).2 (encL us ++ r)
    have h2 := rdL_enc us r (fun v hv => h v (by simp [hv]))
    have e : encL (u :: us) ++ r = encU u ++ (encL us ++ r) := by simp [encL, List.append_assoc]
    rw [e, List.length_cons, rdL, h1]
    simp only [h2]
theorem rdL_inv : ∀ (n : Nat) (l : Bytes) (us : List Upd) (r : Bytes), rdL n l = some (us, r) → l = encL us ++ r ∧ us.length = n ∧ ∀ u ∈ us, u.1.size ≤ 65536 ∧ WfU u
  | 0, l, us, r, h => by
    simp only [rdL, Option.some.injEq, Prod.mk.injEq] at h
    obtain ⟨rfl, rfl⟩ := h
    exact ⟨rfl, rfl, fun u hu => by cases hu⟩
  | n + 1, l, us, r, h => by
    rw [rdL] at h
    cases h1 : rdU l with
    | none => rw [h1] at h; cases h
    | some p =>
      obtain ⟨u, q⟩ := p
      rw [h1] at h
      simp only at h
      cases h2 : rdL n q with
      | none => rw [h2] at h; cases h
      | some p2 =>
        obtain ⟨us', q'⟩ := p2
        rw [h2] at h
        simp only [Option.some.injEq, Prod.mk.injEq] at h
        obtain ⟨rfl, rfl⟩ := h
        obtain ⟨e1, hu, hw⟩ := rdU_inv h1
        obtain ⟨e2, hl, hall⟩ := rdL_inv n q us' q' h2
        refine ⟨by rw [e1, e2]; simp [encL, List.append_assoc], by simp [hl], fun v hv => ?_⟩
        rcases List.mem_cons.1 hv with rfl | hv
        · exact ⟨hu, hw⟩
        · exact hall v hv

/-! ### Encode and Decode -/
def errsE : List Upd → Int
  | [] => 0
  | u :: us => if properE u ≠ 0 then properE u else errsE us
def encR (us : List Upd) : Bytes × Int := if 1000 < us.length then ([], 4) else if errsE us ≠ 0 then ([], errsE us) else (encN us.length ++ encL us, 0)
def fin (acc : List Upd) : Option (List Upd × Bytes) → List Upd × Int
  | none => ([], 13)
  | some (us, r) => if r = [] ∧ errsE us = 0 then (acc ++ us, 0) else ([], 13)
def decR (l : Bytes) : List Upd × Int := if (getI l).2.2 ≠ 0 ∨ 1000 < (getI l).1 then ([], 13) else fin [] (rdL (getI l).1 (l.drop (getI l).2.1))
theorem errs_zero : ∀ (us : List Upd), errsE us = 0 ↔ ∀ u ∈ us, properE u = 0
  | [] => by simp [errsE]
  | u :: us => by
    rw [errsE]
    by_cases h : properE u = 0
    · simp [h, errs_zero us]
    · simp [h]
theorem dec_enc {us : List Upd} (hl : us.length ≤ 1000) (he : errsE us = 0) (hs : ∀ u ∈ us, u.1.size ≤ 65536 ∧ WfU u) : decR (encN us.length ++ encL us) = (us, 0) := by
  have hg := getI_enc (m := us.length) (by omega) (encL us)
  have hr := rdL_enc us [] hs
  rw [List.append_nil] at hr
  unfold decR
  rw [hg]
  simp only [ne_eq, not_true, false_or]
  rw [if_neg (by omega), List.drop_left, hr]
  simp [fin, he]
theorem dec_inv {l : Bytes} {us : List Upd} (h : decR l = (us, 0)) : encR us = (l, 0) ∧ us.length ≤ 1000 ∧ (∀ u ∈ us, u.1.size ≤ 65536 ∧ WfU u) := by
  unfold decR at h
  by_cases hc : (getI l).2.2 ≠ 0 ∨ 1000 < (getI l).1
  · rw [if_pos hc] at h; simp at h
  · rw [if_neg hc] at h
    generalize hg : getI l = g at *
    obtain ⟨n, k, e⟩ := g
    have he : e = 0 := by
      rcases Decidable.em (e = 0) with h' | h'
      · exact h'
      · exact absurd (.inl h') hc
    subst he
    obtain ⟨r, rfl, rfl, _⟩ := getI_inv hg
    simp only [List.drop_left] at h hc
    have hn : n ≤ 1000 := by omega
    cases h2 : rdL n r with
    | none => rw [h2] at h; simp [fin] at h
    | some p =>
      obtain ⟨vs, q⟩ := p
      rw [h2, fin] at h
      by_cases hq : q = [] ∧ errsE vs = 0
      · rw [if_pos hq, List.nil_append] at h
        simp only [Prod.mk.injEq, and_true] at h
        subst h
        obtain ⟨e1, e2, e3⟩ := rdL_inv n r vs q h2
        refine ⟨?_, by omega, e3⟩
        unfold encR
        rw [if_neg (by omega), if_neg (by simp [hq.2]), e2, e1, hq.1, List.append_nil]
      · rw [if_neg hq] at h; simp at h
/-- what the reference does: it reads the updates and compares their encoding with the bytes -/
theorem dec_ref {l : Bytes} {n k : Nat} {us : List Upd} {r : Bytes} (hg : getI l = (n, k, 0)) (hn : n ≤ 1000) (hr : rdL n (l.drop k) = some (us, r)) :
    decR l = if (encR us).2 ≠ 0 ∨ (encR us).1 ≠ l then ([], 13) else (us, 0) := by
  obtain ⟨q, rfl, rfl, _⟩ := getI_inv hg
  simp only [List.drop_left] at hr
  obtain ⟨e1, e2, e3⟩ := rdL_inv n q us r hr
  unfold decR
  rw [hg]
  simp only [ne_eq, not_true, false_or, List.drop_left]
  rw [if_neg (by omega), hr, fin, List.nil_append]
  have eR : encR us = if errsE us ≠ 0 then ([], errsE us) else (encN us.length ++ encL us, 0) := by unfold encR; rw [if_neg (by omega)]
  rw [eR]
  by_cases he : errsE us = 0
  · rw [if_neg (show ¬ errsE us ≠ 0 by simp [he])]
    by_cases h0 : r = []
    · subst h0
      rw [if_pos ⟨rfl, he⟩, if_neg (by rw [e2, e1, List.append_nil]; simp)]
    · rw [if_neg (by simp [h0]), if_pos]
      refine .inr ?_
      rw [e2, e1]
      intro h
      have := congrArg List.length h
      simp at this
      exact h0 this
  · rw [if_neg (by simp [he]), if_pos (show errsE us ≠ 0 from he), if_pos (.inl he)]
theorem dec_none {l : Bytes} {n k : Nat} (hg : getI l = (n, k, 0)) (hr : rdL n (l.drop k) = none) : decR l = ([], 13) := by
  unfold decR
  rw [hg]
  split
  · rfl
  · rw [hr]; rfl
end Go.Proofs.YtikmiabncbhioaaDoor
