/-
  A slice of bytes that may be appended to, whatever mark its block bears behind its last cell ([]byte(s) too): what it holds, and append.
-/
import Derived.Test.YtikmiabncbhioaaDoorCod
import Derived.Test.YtikmiabncbhioaaDoorBlk
import Derived.Deep.AppendSrc
import Derived.Deep.Upon
import Derived.Lib.ConvBytes
import Derived.Laws.IdiomStrings
import Derived.Laws.BytesArg
namespace Go.Proofs.YtikmiabncbhioaaDoor
open Go.RowKit

def bc (l : Bytes) : List Value := l.map fun b => Value.int .u8 b.toNat
theorem bc_len (l : Bytes) : (bc l).length = l.length := by simp [bc]
theorem bc_append (l r : Bytes) : bc (l ++ r) = bc l ++ bc r := by simp [bc]

structure Txt (w : World) (base av : Nat) (A : Option Addr) (n c : Nat) (bs : Bytes) : Prop where
  len : bs.length = n
  le : n ≤ c
  max : c ≤ maxLen
  lies : 0 < c → ∃ b off, A = some ⟨b, off, none⟩ ∧ (base ≤ b ∧ b ≠ av) ∧ b < w.heap.size ∧ (∀ j, j < n → w.cell? ⟨b, off + j, none⟩ = (bc bs)[j]?) ∧ (∀ j, j < c → (w.cell? ⟨b, off + j, none⟩).isSome = true ∧ w.frozen? ⟨b, off + j, none⟩ = false)

section
variable {w w' : World} {base av n c : Nat} {A : Option Addr} {bs : Bytes}
theorem Txt.nil (w : World) (base av : Nat) (A : Option Addr) : Txt w base av A 0 0 [] := ⟨rfl, Nat.le_refl _, Nat.zero_le _, fun h => absurd h (by omega)⟩
theorem Txt.keep (h : Txt w base av A n c bs) (hs : w.heap.size ≤ w'.heap.size) (hk : ∀ k, k < w.heap.size → w'.heap[k]? = w.heap[k]?) : Txt w' base av A n c bs :=
  ⟨h.len, h.le, h.max, fun h0 => by
    obtain ⟨b, off, e, hb, hl, hc, hf⟩ := h.lies h0
    have ec : ∀ o, w'.cell? ⟨b, o, none⟩ = w.cell? ⟨b, o, none⟩ := fun o => World.cell?_of_block (a := ⟨b, o, none⟩) (hk b hl)
    have ef : ∀ o, w'.frozen? ⟨b, o, none⟩ = w.frozen? ⟨b, o, none⟩ := fun o => World.frozen?_of_block (a := ⟨b, o, none⟩) (hk b hl)
    exact ⟨b, off, e, hb, by omega, fun j hj => (ec _).trans (hc j hj), fun j hj => ⟨by rw [ec]; exact (hf j hj).1, (ef _).trans (hf j hj).2⟩⟩⟩
theorem Txt.below (h : Txt w base av A n c bs) (hb : Below w.heap.size w w') : Txt w' base av A n c bs := h.keep hb.size fun k hk => hb.block k hk
theorem Txt.lower {base' : Nat} (h : Txt w base av A n c bs) (hb : base' ≤ base) : Txt w base' av A n c bs :=
  ⟨h.len, h.le, h.max, fun h0 => by
    obtain ⟨b, off, e, h1, h2⟩ := h.lies h0
    exact ⟨b, off, e, ⟨by omega, h1.2⟩, h2⟩⟩
theorem Txt.avoid {av' : Nat} (h : Txt w base av A n c bs) (ha : w.heap.size ≤ av') : Txt w base av' A n c bs :=
  ⟨h.len, h.le, h.max, fun h0 => by
    obtain ⟨b, off, e, h1, h2, h3⟩ := h.lies h0
    exact ⟨b, off, e, ⟨h1.1, by omega⟩, h2, h3⟩⟩

theorem setCells_below {B b : Nat} (hb : B ≤ b) : ∀ (vs : List Value) (o : Nat) (w : World), Below B w (w.setCells b o vs)
  | [], _, w => Below.refl _ w
  | v :: vs, o, w => ((Below.refl B w).setCell (p := ⟨b, o, none⟩) hb v).trans (setCells_below hb vs (o + 1) _)
theorem setCells_size (b : Nat) : ∀ (vs : List Value) (o : Nat) (w : World), (w.setCells b o vs).heap.size = w.heap.size
  | [], _, _ => rfl
  | v :: vs, o, w => by
    show ((w.setCell ⟨b, o, none⟩ v).setCells b (o + 1) vs).heap.size = _
    rw [setCells_size b vs]; simp

theorem setCells_other {b k : Nat} (hb : b ≠ k) : ∀ (vs : List Value) (o : Nat) (w : World), (w.setCells b o vs).heap[k]? = w.heap[k]?
  | [], _, _ => rfl
  | v :: vs, o, w => (setCells_other hb vs (o + 1) _).trans (Below.heap_setCell w ⟨b, o, none⟩ v k (fun e => hb e.symm))

variable {P : Program}
theorem Txt.run_append (h : Txt w base av A n c bs) (t tx ty e : TypeId) (i : TypeInfo) (ht : P.underlying t = some (.slice e)) (hi : P.info? e = some i) (hz : i.zero = some (.int .u8 0)) (hsize : i.size = 1) (hby : i.bytes = 1)
    (x : Value) (m : Nat) (ys : Bytes) (hs : Src P 1 tx x m (bc ys) w) (hmax : n + m ≤ 140737488355328) (hbase : base ≤ w.heap.size) (hav : av < w.heap.size) :
    ∃ A' c' w', (Builtin.append_ #[t, tx] ty #[.slice A n c, x]).run P w = .ok (.slice A' (n + m) c') w' ∧ Txt w' base av A' (n + m) c' (bs ++ ys) ∧ Below base w w' ∧ w'.heap[av]? = w.heap[av]? := by
  have hnl := hs.newsLen
  rw [bc_len, Nat.mul_one] at hnl
  have hs' : Src P i.size tx x m (bc ys) w := by rw [hsize]; exact hs
  by_cases hfit : n + m ≤ c
  · rcases Nat.eq_zero_or_pos c with h0 | hc
    · subst h0
      obtain rfl : n = 0 := by omega
      obtain rfl : m = 0 := by omega
      obtain rfl : ys = [] := List.eq_nil_of_length_eq_zero hnl
      exact ⟨A, 0, w, run_append_nothing (P := P) w t tx ty e i ht hi A 0 0 (Nat.le_refl _) x hs', by simpa using h, Below.refl _ _, rfl⟩
    · obtain ⟨b, off, rfl, hb, hl, hcell, hfree⟩ := h.lies hc
      have hsome : ∀ j, j < (bc ys).length → (w.cell? ⟨b, off + n * i.size + j, none⟩).isSome = true := fun j hj => by
        rw [bc_len] at hj
        rw [hsize, Nat.mul_one, Nat.add_assoc]; exact (hfree (n + j) (by omega)).1
      have hrun := run_append_room_src (P := P) w t tx ty e i ht hi b off n c x m (bc ys) hs' hfit hsome (fun j hj => by
        rw [bc_len] at hj
        rw [hsize, Nat.mul_one, Nat.add_assoc]; exact (hfree (n + j) (by omega)).2)
      refine ⟨_, _, _, hrun, ⟨by rw [List.length_append, h.len]; omega, hfit, h.max, fun _ => ⟨b, off, rfl, hb, by rw [setCells_size]; exact hl, fun j hj => ?_, fun j hj => ⟨?_, ?_⟩⟩⟩, setCells_below hb.1 _ _ _, setCells_other hb.2 _ _ _⟩
      · by_cases hj' : j < n
        · rw [World.cell?_setCells_out b _ _ _ _ (fun _ _ => .inl (by show off + j < off + n * i.size; rw [hsize]; omega)), hcell j hj', bc_append, List.getElem?_append_left (by rw [bc_len, h.len]; exact hj')]
        · have := World.cell?_setCells_in b (bc ys) (off + n * i.size) w hsome (j - n) (by rw [bc_len]; omega)
          rw [hsize, Nat.mul_one, show off + n + (j - n) = off + j by omega] at this
          rw [hsize, Nat.mul_one, this, bc_append, List.getElem?_append_right (by rw [bc_len, h.len]; omega), show (bc bs).length = n by rw [bc_len, h.len]]
          exact (List.getElem?_eq_getElem _).symm
      · by_cases hj' : n ≤ j ∧ j < n + m
        · have := World.cell?_setCells_in b (bc ys) (off + n * i.size) w hsome (j - n) (by rw [bc_len]; omega)
          rw [hsize, Nat.mul_one, show off + n + (j - n) = off + j by omega] at this
          rw [hsize, Nat.mul_one, this]; rfl
        · rw [World.cell?_setCells_out b _ _ _ _ (fun _ _ => by show off + j < off + n * i.size ∨ off + n * i.size + (bc ys).length ≤ off + j; rw [hsize, bc_len]; omega)]
          exact (hfree j hj).1
      · rw [World.frozen?_setCells]; exact (hfree j hj).2
  · have hold : (Builtin.firstCells i.size n (.slice A n c)).run P w.drew = .ok (bc bs).toArray w.drew := by
      rw [hsize]
      rcases Nat.eq_zero_or_pos c with h0 | hc
      · subst h0
        obtain rfl : n = 0 := by have := h.le; omega
        obtain rfl : bs = [] := List.eq_nil_of_length_eq_zero h.len
        cases A with
        | none => exact run_firstCells_none w.drew 1 0 0 0
        | some a' => exact run_firstCells_some w.drew 1 0 a' 0 0 [] (by simp) (by intro _ _ h'; simp at h')
      · obtain ⟨b, off, rfl, hb, hl, hcell, hfree⟩ := h.lies hc
        refine run_firstCells_some w.drew 1 n ⟨b, off, none⟩ n c (bc bs) (by rw [bc_len, h.len]; omega) (fun j u hu => ?_)
        rw [Addr.add_lit]
        have hj : j < n := by have := (List.getElem?_eq_some_iff.1 hu).1; rwa [bc_len, h.len] at this
        exact (hcell j hj).trans hu
    have hg : c < n + m := by omega
    have h63 : n + m ≤ maxLen := by unfold maxLen; omega
    have hrun := run_append_grow_src (P := P) w t tx ty e i (.int .u8 0) ht hi hz A n c (bc bs) hold x m (bc ys) hs' hg (by omega) (growslice_fits hg (by rw [hby]; omega))
    have hge := grownCap_ge w (n + m) c e
    have hcm := grownCap_le_maxLen w (n + m) c e h63
    refine ⟨_, _, _, hrun, ⟨by rw [List.length_append, h.len]; omega, hge, hcm, fun _ => ⟨w.heap.size, 0, rfl, ⟨hbase, by omega⟩, ?_, fun j hj => ?_, fun j hj => ⟨?_, ?_⟩⟩⟩, ((Below.refl base w).drew).alloc hbase _, Below.heap_alloc w.drew _ av hav⟩
    · have : (w.drew.alloc (.cells ((bc bs ++ bc ys).toArray ++ Builtin.zeroCells (Value.int .u8 0).cells (grownCap w (n + m) c e - (n + m))) e)).heap.size = w.heap.size + 1 := World.size_alloc _ _
      omega
    · have e1 : (w.drew.alloc (.cells ((bc bs ++ bc ys).toArray ++ Builtin.zeroCells (Value.int .u8 0).cells (grownCap w (n + m) c e - (n + m))) e)).cell? ⟨w.heap.size, j, none⟩ = _ := World.cell?_alloc_new w.drew _ _ j
      rw [Nat.zero_add, e1, Array.getElem?_append_left (by simp only [List.size_toArray, List.length_append, bc_len, h.len]; omega), List.getElem?_toArray, bc_append]
    · have e1 : (w.drew.alloc (.cells ((bc bs ++ bc ys).toArray ++ Builtin.zeroCells (Value.int .u8 0).cells (grownCap w (n + m) c e - (n + m))) e)).cell? ⟨w.heap.size, j, none⟩ = _ := World.cell?_alloc_new w.drew _ _ j
      rw [Nat.zero_add, e1]
      have hsz : ((bc bs ++ bc ys).toArray ++ Builtin.zeroCells (Value.int .u8 0).cells (grownCap w (n + m) c e - (n + m))).size = grownCap w (n + m) c e := by
        rw [Array.size_append, List.size_toArray, List.length_append, bc_len, bc_len, h.len, hnl, size_zeroCells]
        show n + m + (grownCap w (n + m) c e - (n + m)) * 1 = _
        omega
      rw [Array.getElem?_eq_getElem (by rw [hsz]; exact hj)]
      rfl
    · rw [Nat.zero_add]; exact World.frozen?_alloc_new w.drew _ _ j

/-- at the operation -/
theorem wpList_append_txt {ops : Array Oper} {rest : List Oper} {o : Oper} {a : Act} {Q : Exit → Act → World → Prop} (hgd : o.guard = none) (s x : Operand) (t tx : TypeId)
    (ho : o.op = .call { callee := .builtin .append, args := #[s, x], argTypes := #[t, tx] })
    (e : TypeId) (i : TypeInfo) (ht : P.underlying t = some (.slice e)) (hi : P.info? e = some i) (hz : i.zero = some (.int .u8 0)) (hsize : i.size = 1) (hby : i.bytes = 1)
    (A : Option Addr) (n c : Nat) (bs : Bytes) (hv : a.eval s = .slice A n c) (h : Txt w base av A n c bs)
    (xv : Value) (m : Nat) (ys : Bytes) (hx : a.eval x = xv) (hs : Src P 1 tx xv m (bc ys) w) (hmax : n + m ≤ 140737488355328) (hbase : base ≤ w.heap.size) (hav : av < w.heap.size)
    (hK : ∀ A' c' w', Txt w' base av A' (n + m) c' (bs ++ ys) → Below base w w' → w'.heap[av]? = w.heap[av]? → wpList P ops Q rest (a.put o.dst (.slice A' (n + m) c')) w') : wpList P ops Q (o :: rest) a w := by
  refine wpList_plain hgd fun K hK' => ?_
  obtain ⟨A', c', w', hrun, h1, h2, h3⟩ := h.run_append (P := P) t tx o.type e i ht hi hz hsize hby xv m ys hs hmax hbase hav
  unfold Oper.wp
  simp [execOp, ho, resolve, invoke, builtin, hv, hx, hrun, Result.andThen]
  exact hK' _ _ (hK A' c' w' h1 h2 h3)

/-- []byte(s) -/
theorem run_text (src dst e : TypeId) (s : ByteArray) (hs : P.underlying src = some .string) (hd : P.underlying dst = some (.slice e)) (he : P.underlying e = some (.int .u8)) (hz : s.size ≤ maxLen) (w : World) :
    ∃ A c w', (convert src dst (.string s)).run P w = .ok (.slice A s.size c) w' ∧ Txt w' w.heap.size (w.heap.size + 1) A s.size c (toL s) ∧ Below w.heap.size w w' := by
  refine ⟨_, _, _, Lib.run_convert_string_bytes (P := P) w src dst e s hs hd he, ⟨(size_toL s).symm, grownCap_ge w s.size 0 e, grownCap_le_maxLen w s.size 0 e hz, fun _ => ⟨w.heap.size, 0, rfl, ⟨Nat.le_refl _, by omega⟩, by rw [Lib.bytesWorld_size]; omega, fun j hj => ?_, fun j hj => ⟨?_, ?_⟩⟩⟩, ?_⟩
  · rw [Nat.zero_add, Lib.bytesWorld_cell w e s j hj]
    have hj' : j < s.data.toList.length := by rw [size_toL] at hj; exact hj
    simp [bc, toL, List.getD, List.getElem?_eq_getElem hj']
  · have hsz : (Lib.bytesCells w e s).size = grownCap w s.size 0 e := by
      have := grownCap_ge w s.size 0 e
      rw [Lib.bytesCells, Array.size_append, Array.size_map, Array.size_replicate]
      show s.size + _ = _
      omega
    rw [Nat.zero_add]
    simp [World.cell?, Lib.bytesWorld_at_new, hsz, hj]
  · have hsz : (Lib.bytesCells w e s).size = grownCap w s.size 0 e := by
      have := grownCap_ge w s.size 0 e
      rw [Lib.bytesCells, Array.size_append, Array.size_map, Array.size_replicate]
      show s.size + _ = _
      omega
    rw [Nat.zero_add]
    simp [World.frozen?, Lib.bytesWorld_at_new, hsz]
    omega
  · exact ⟨rfl, rfl, rfl, by rw [Lib.bytesWorld_size]; omega, fun k hk => Lib.bytesWorld_at_old w e s k hk⟩

/-- string(b) -/
theorem Txt.run_string (h : Txt w base av A n c bs) (src dst e : TypeId) (hs : P.underlying src = some (.slice e)) (he : P.underlying e = some (.int .u8)) (hd : P.underlying dst = some .string) :
    (convert src dst (.slice A n c)).run P w = .ok (.string (ofL bs)) w := by
  rcases Nat.eq_zero_or_pos c with h0 | hc
  · subst h0
    obtain rfl : n = 0 := by have := h.le; omega
    obtain rfl : bs = [] := List.eq_nil_of_length_eq_zero h.len
    cases A with
    | none => exact run_convert_bytes_nil w src e hs he 0 0 dst hd
    | some a => exact run_convert_bytes_back w src dst e a 0 [] hs he hd (fun j hj => by simp at hj)
  · obtain ⟨b, off, rfl, _, _, hcell, _⟩ := h.lies hc
    have := run_convert_bytes_back (P := P) w src dst e ⟨b, off, none⟩ c bs hs he hd (fun j hj => by
      rw [Addr.add_lit, hcell j (by rw [← h.len]; exact hj)]
      simp [bc, List.getElem?_eq_getElem hj])
    rw [h.len] at this
    exact this
end
end Go.Proofs.YtikmiabncbhioaaDoor
