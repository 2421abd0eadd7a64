/-
  Lemmas: What the rows share: an argument that reads as before, the last step, the witness's world. append onto a slice that is the call's own, or empty without capacity. A slice from which elements are taken in front and to which elements are appended: it owns its row from its own offset on. Over any program. Maps with strings as keys and whatever values as elements (structs with slices, slices that are appended to): what a key has, as a plain function. Over any program. As in Range2; moreover the iterator knows where memory ends when it is entered (hz), and what a round keeps (Kp) has to be shown of the loop's own record only where that record lies. For graph.reached's walk: laws inside a fence (append onto a queue, a store into a map), and what the iterator and its rounds leave alone. The search with numbers of steps, as graph.reached makes it: what it has handed over (pre) and its queue (todo). Plain Lean; no program in sight. A scope (a function that holds a label) inside a fence, where no goto is taken. Over any program. graph.index: targets by their labels; the first one with a label counts. graph.reached's iterator, walked. graph.reached and graph.returns.
-/
import Derived.Test.YtiphbincnnppdaaDoorCards
import Derived.Test.YtiphbincnnppdaaDoorTie
import Derived.Deep.DeepHandedRow
import Derived.Lib.LaidTab
import Derived.Lib.LaidIn
import Derived.ArgAppend
import Derived.Maps.RangeWalk
import Derived.OwnWalkIn
import Derived.Scope
import Derived.ControlIn
import Derived.Test.YtiphbincnnppdaaDoorProg
import Derived.Sort.LoopGhostIn
import Derived.Maps.OwnIn
import Derived.Test.YtiphbincnnppdaaDoorU2

namespace Go.Proofs.YtiphbincnnppdaaDoor
open Go.ChangeShapes Go.WideShapes Go.ChangeAt Go.RowKit Go.Joins Go.Deep

theorem own : ownKnob Tryd.prog.godebug = none := by kernel_rfl
theorem laidOut : laidOutB Tryd.prog = true := by kernel_rfl

section
variable {H : Type} {enc : TypeId × Value → H} {W : World} {v : Value} {d : DataW H} {p : List MemPlace} {sp : Nat → Bool}
/-- an argument reads as it did -/
theorem keep {W' : World} {t : TypeId} (hr : Tryd.prog.readableRec t = true) (hrow : t < Tryd.prog.types.size) (h : DataW.Trod enc Tryd.prog W 0 (fun _ => true) true t v d p) (hb : Below W.heap.size W W') (hlt : ∀ x ∈ p, x.block < W.heap.size) (hsp : ∀ x ∈ p, sp x.block = true) :
    DataW.Trod enc Tryd.prog W' 0 sp true t v d p :=
  WideElems.Trod_stays laidOut hr hrow h (fun x hx => hb.same (hlt x hx)) hsp
end

/-- The last step, where only 'Below' is known of the world behind the call: after the guide's lemma of that name. -/
theorem post_below {H : Type} {enc : TypeId × Value → H} {P : Program} {f : Func} {s : ChangeSpec} {apart fresh handsOn again : Bool} {W W' : World} {args : Array Value} {v : Value} {ds gs : List (DataW H)} {before pa pv : List MemPlace}
    (hW : DataW.Whole enc P f.params.toList s.vars apart W args.toList ds gs before)
    (hres : ∀ (b : Nat) (sp : Nat → Bool) (hd : Bool), DataW.TrodAll enc P W' b sp hd f.resultTypes.toList (v.resultList f.resultTypes.size) (s.fn H (ds ++ gs)).results [])
    (hargs : ∀ sp : Nat → Bool, (∀ p ∈ before, sp p.block = true) → DataW.TrodAll enc P W' 0 sp true f.params.toList args.toList (s.fn H (ds ++ gs)).args pa)
    (hvars : ∀ sp : Nat → Bool, (∀ p ∈ before, sp p.block = true) → DataW.TrodVars enc P W' sp s.vars (s.fn H (ds ++ gs)).vars pv)
    (hps : before = pa ++ pv) (hb : Below W.heap.size W W')
    (hok : ∀ (j : Nat) (t : TypeId) (r : Value), f.resultTypes[j]? = some t → (v.resultList f.resultTypes.size)[j]? = some r → Value.okWide P W' .any 0 t r) :
    s.post enc P f apart fresh handsOn again W args v W' := by
  have hlt : ∀ p ∈ before, p.block < W.heap.size := fun p hp => hW.lt p hp
  have hold : ∀ p ∈ before, (fun b => decide (b < W.heap.size)) p.block = true := fun p hp => by simpa using hlt p hp
  refine ⟨ds, gs, before, [], pa, pv, hW, hres _ _ _, hargs _ hold, hvars _ hold, World.keptBut_mono (fun p hp => ⟨hp, ?_⟩) (hb.frame (· ∈ before)), fun _ => ?_⟩
  · rw [hps, List.mem_append] at hp
    exact Or.inr hp
  · obtain ⟨_, _, _, _, _, hz, hn⟩ := hW
    refine ⟨hok, _, _, ([] ++ pa) ++ pv, ⟨[] ++ pa, pv, trodAll_append (hargs _ (fun _ _ => rfl)) (hres _ _ _), hvars _ (fun _ _ => rfl), rfl, ?_, ?_⟩, ?_⟩
    · intro b off hp
      have hin : MemPlace.cell b off ∈ before := by rw [hps]; simpa using hp
      rw [hb.frozen (hlt _ hin)]
      exact hz b off hin
    · intro ha
      have := hn ha
      rw [hps] at this
      simpa using this
    · intro p hp _
      rw [hps]
      simpa using hp

/-- The witness's world: the settled one, the two listed variables holding what their initialisers lay. -/
noncomputable def laidWorld (os : Os) : World :=
  let w0 := World.holding Tryd.prog os ⟨#[], #[], []⟩
  let put (h : Array Obj) (g : Nat) (cs : Array Value) : Array Obj := h.modify g fun
    | .cells _ t frozen => .cells cs t frozen
    | o => o
  let h1 := put w0.heap 1 (Go.Pinned.utf8FirstZ.map fun (z : Nat) => Value.int .u8 (z : Int)).toArray
  let h2 := put h1 2 (([128, 191, 160, 191, 128, 159, 144, 191, 128, 143].map fun (z : Int) => Value.int .u8 z) ++ List.replicate 22 (Value.int .u8 0)).toArray
  { w0 with heap := h2 }
set_option maxRecDepth 100000 in
theorem laid_met (os : Os) (args : Array Value) : laidMet Tryd.prog [("unicode/utf8.acceptRanges", Rows.laid_unicode_utf8_acceptRanges), ("unicode/utf8.first", Rows.laid_unicode_utf8_first)] ((laidWorld os).forCall (fun _ _ => 0) ⟨#[], args, []⟩).memory :=
  (LaidIn.of_run (l := [("unicode/utf8.acceptRanges", Rows.laid_unicode_utf8_acceptRanges), ("unicode/utf8.first", Rows.laid_unicode_utf8_first)]) [2, 1] 8 (by kernel_rfl) (by kernel_rfl) (by kernel_rfl) (by kernel_rfl)).met
end Go.Proofs.YtiphbincnnppdaaDoor

namespace Go.Proofs.YtiphbincnnppdaaDoor
open Go.RowKit

/-- v may be appended to: it owns its row (in a block from base on), or it is empty and has no capacity. -/
def Apd (w : World) (base : Nat) (e : TypeId) (size : Nat) (A : Option Addr) (n c : Nat) (xs : List Value) : Prop :=
  w.ownsRow base e size (.slice A n c) n xs ∨ (n = 0 ∧ c = 0 ∧ xs = [])

section
variable {P : Program} {w w' : World} {base size n c : Nat} {e : TypeId} {A : Option Addr} {xs : List Value}
theorem Apd.sl (h : Apd w base e size A n c xs) : Sl w w.heap.size size A n xs := by
  rcases h with h | ⟨rfl, rfl, rfl⟩
  · exact Sl.of_own h
  · exact Sl.nil _ _ _ _
theorem Apd.below (h : Apd w base e size A n c xs) (hb : Below w.heap.size w w') : Apd w' base e size A n c xs := by
  rcases h with h | h
  · exact .inl (h.kept (row := none) ⟨hb.os, hb.tape, hb.output, hb.size, fun k hk _ => hb.block k hk⟩ (by
      cases hv : (Value.slice A n c).ownBlock with
      | none => exact .inl rfl
      | some k => exact .inr (by simp)))
  · exact .inr h
theorem Apd.setCell (h : Apd w base e size A n c xs) {a : Addr} (ha : a.block < base) (u : Value) : Apd (w.setCell a u) base e size A n c xs := by
  rcases h with h | h
  · exact .inl (ownsRow_setCell_below h ha u)
  · exact .inr h
theorem below_of_none (hg : w.grownBy w' none) : Below w.heap.size w w' := ⟨hg.os, hg.tape, hg.output, hg.size, fun k hk => hg.block k hk (by simp)⟩

/-- onto a slice that is empty and has no capacity: only new memory is made. -/
theorem run_append_empty (t ty : TypeId) (i : TypeInfo) (z : Value) (bytes : Nat) (ht : P.underlying t = some (.slice e)) (hi : P.info? e = some i) (hz : i.zero = some z)
    (hsize : i.size = size) (hby : i.bytes = bytes) (hzs : z.cells.size = size) (hsz : 0 < size)
    {B : Nat} {A' : Option Addr} {m c' : Nat} {ys : List Value} (hsl : Sl w B size A' m ys) (h1 : ∀ u ∈ ys, u.oneCell' = true)
    (h63 : m ≤ maxLen) (hbytes : m * bytes ≤ 140737488355328) (hbase : base ≤ w.heap.size) (A : Option Addr) :
    ∃ A2 c2 w', (Builtin.append_ #[t, t] ty #[.slice A 0 0, .slice A' m c']).run P w = .ok (.slice A2 m c2) w' ∧ Apd w' base e size A2 m c2 ys ∧ Below w.heap.size w w' ∧ m ≤ c2 ∧ c2 ≤ maxLen := by
  rcases Nat.eq_zero_or_pos m with h | hm
  · subst h
    have hy : ys = [] := by
      have := hsl.1; rw [Nat.zero_mul] at this; exact List.length_eq_zero_iff.1 this
    subst hy
    refine ⟨A, 0, w, ?_, .inr ⟨rfl, rfl, rfl⟩, Below.refl _ _, Nat.le_refl _, Nat.zero_le _⟩
    cases A <;> cases A' <;> simp [Builtin.append_, run_underlying ht, sizeOf, typeInfo, hi, Builtin.lenOf, Builtin.firstCells, loadCells, loadCellsFrom, storeCells]
  · -- as onto nil
    have hrun : (Builtin.append_ #[t, t] ty #[.slice A 0 0, .slice A' m c']).run P w = (Builtin.append_ #[t, t] ty #[.slice none 0 0, .slice A' m c']).run P w := by
      obtain ⟨b, off, rfl, _, _⟩ := hsl.2 hm
      cases A with
      | none => rfl
      | some ad =>
        have hroom : ¬ m = 0 := by omega
        have hfit : ¬ 281474976710656 < Builtin.nextslicecap m 0 * i.bytes := by
          have := growslice_fits (old := 0) (need := m) (bytes := bytes) (by omega) hbytes
          rw [hby]; omega
        simp [Builtin.append_, run_underlying ht, sizeOf, typeInfo, hi, Builtin.lenOf, Builtin.firstCells, loadCells, loadCellsFrom, hroom, hfit]
    obtain ⟨A2, c2, w2, hr, ho, hg, hc1, hc2⟩ := run_append_sl (P := P) (base := base) (v := .slice none 0 0) (n := 0) (xs := []) t ty i z bytes ht hi hz hsize hby hzs hsz (World.ownsRow_nil w base e size) (c := c') hsl h1 (by omega) (by rw [Nat.zero_add]; exact hbytes) hbase
    simp only [Nat.zero_add, List.nil_append] at hr ho hc1
    exact ⟨A2, c2, w2, hrun.trans hr, .inl ho, below_of_none hg, hc1, hc2⟩

/-- rows of another element type are as they were -/
def OthersKept (e : TypeId) (w w' : World) : Prop := ∀ (base size n : Nat) (e' : TypeId) (v : Value) (xs : List Value), e' ≠ e → w.ownsRow base e' size v n xs → w'.ownsRow base e' size v n xs
theorem run_append_apd (t ty : TypeId) (i : TypeInfo) (z : Value) (bytes : Nat) (ht : P.underlying t = some (.slice e)) (hi : P.info? e = some i) (hz : i.zero = some z)
    (hsize : i.size = size) (hby : i.bytes = bytes) (hzs : z.cells.size = size) (hsz : 0 < size) (ha : Apd w base e size A n c xs)
    {B : Nat} {A' : Option Addr} {m c' : Nat} {ys : List Value} (hsl : Sl w B size A' m ys) (h1 : ∀ u ∈ ys, u.oneCell' = true)
    (h63 : n + m ≤ maxLen) (hbytes : (n + m) * bytes ≤ 140737488355328) (hbase : base ≤ w.heap.size) :
    ∃ A2 c2 w', (Builtin.append_ #[t, t] ty #[.slice A n c, .slice A' m c']).run P w = .ok (.slice A2 (n + m) c2) w' ∧ Apd w' base e size A2 (n + m) c2 (xs ++ ys) ∧ Below base w w' ∧ n + m ≤ c2 ∧ c2 ≤ maxLen ∧ OthersKept e w w' := by
  rcases ha with h | ⟨rfl, rfl, rfl⟩
  · obtain ⟨A2, c2, w2, hr, ho, hg, hc1, hc2⟩ := run_append_sl (P := P) t ty i z bytes ht hi hz hsize hby hzs hsz h (c := c') hsl h1 h63 hbytes hbase
    exact ⟨A2, c2, w2, hr, .inl ho, (Below.refl _ w).grown hg hbase (fun k hk => ownBlock_ge h k hk), hc1, hc2, fun _ _ _ _ _ _ hne h' => h'.kept hg (ownsRow_apart h h' hne)⟩
  · obtain ⟨A2, c2, w2, hr, ho, hg, hc1, hc2⟩ := run_append_empty (P := P) (base := base) t ty i z bytes ht hi hz hsize hby hzs hsz (c' := c') hsl h1 (by omega) (by rw [Nat.zero_add] at hbytes; exact hbytes) hbase A
    rw [Nat.zero_add, List.nil_append]
    exact ⟨A2, c2, w2, hr, ho, hg.mono hbase, hc1, hc2, fun _ _ _ _ v _ _ h' => h'.kept (row := none) ⟨hg.os, hg.tape, hg.output, hg.size, fun k hk _ => hg.block k hk⟩ (by cases hv : v.ownBlock with | none => exact .inl rfl | some k => exact .inr (by simp))⟩

/-- `append(s, x...)` at the operation, s as above. -/
theorem wpList_append_apd (w : World) {ops : Array Oper} {rest : List Oper} {o : Oper} {a : Act} {Q : Exit → Act → World → Prop} (hgd : o.guard = none) (s x : Operand) (t : TypeId)
    (ho : o.op = .call { callee := .builtin .append, args := #[s, x], argTypes := #[t, t] })
    (e : TypeId) (i : TypeInfo) (z : Value) (bytes : Nat) (ht : P.underlying t = some (.slice e)) (hi : P.info? e = some i) (hz : i.zero = some z)
    (hsize : i.size = size) (hby : i.bytes = bytes) (hzs : z.cells.size = size) (hsz : 0 < size)
    (A : Option Addr) (n c : Nat) (xs : List Value) (hs : a.eval s = .slice A n c) (hown : Apd w base e size A n c xs)
    (B : Nat) (A' : Option Addr) (m c' : Nat) (ys : List Value) (hx : a.eval x = .slice A' m c') (hsl : Sl w B size A' m ys) (h1 : ∀ u ∈ ys, u.oneCell' = true)
    (h63 : n + m ≤ maxLen) (hbytes : (n + m) * bytes ≤ 140737488355328) (hbase : base ≤ w.heap.size)
    (h : ∀ A2 c2 w', Apd w' base e size A2 (n + m) c2 (xs ++ ys) → Below base w w' → n + m ≤ c2 → c2 ≤ maxLen → OthersKept e w w' → wpList P ops Q rest (a.put o.dst (.slice A2 (n + m) c2)) w') : wpList P ops Q (o :: rest) a w := by
  refine wpList_plain hgd fun K hK => ?_
  obtain ⟨A2, c2, w', hr, ho', hg, hc1, hc2, hok⟩ := run_append_apd (P := P) t o.type i z bytes ht hi hz hsize hby hzs hsz hown (c' := c') hsl h1 h63 hbytes hbase
  unfold Oper.wp
  simp [execOp, ho, resolve, invoke, builtin, hs, hx, hr, Result.andThen]
  exact hK _ _ (h A2 c2 w' ho' hg hc1 hc2 hok)
end
end Go.Proofs.YtiphbincnnppdaaDoor

namespace Go.Proofs.YtiphbincnnppdaaDoor
open Go.RowKit

def Que (w : World) (base : Nat) (e : TypeId) (size : Nat) (A : Option Addr) (n c : Nat) (xs : List Value) : Prop :=
  xs.length = n * size ∧ ((n = 0 ∧ c = 0) ∨ ∃ g off cur, A = some ⟨g, off, none⟩ ∧ base ≤ g ∧ w.heap[g]? = some (.cells cur e (0, 0)) ∧ n ≤ c ∧ c ≤ maxLen ∧ cur.size = off + c * size ∧ (cur.toList.drop off).take (n * size) = xs)
section
variable {P : Program} {w w' : World} {base size n c : Nat} {e : TypeId} {A : Option Addr} {xs : List Value}
theorem Que.of_own (h : w.ownsRow base e size (.slice A n c) n xs) : Que w base e size A n c xs := by
  refine ⟨h.1, ?_⟩
  rcases h.2 with ⟨hv, h0⟩ | ⟨g, cap, cur, hv, h1, h2, h3, h4, h5, h6⟩
  · simp at hv; exact .inl ⟨h0, hv.2.2⟩
  · simp at hv
    obtain ⟨rfl, rfl⟩ := hv
    exact .inr ⟨g, 0, cur, rfl, h1, h2, h3, h4, by omega, by simpa using h6⟩
theorem Que.more {base' : Nat} (h : Que w base e size A n c xs) (hb : base' ≤ base) : Que w base' e size A n c xs := by
  obtain ⟨h0, h | ⟨g, off, cur, h1, h2, h3⟩⟩ := h
  · exact ⟨h0, .inl h⟩
  · exact ⟨h0, .inr ⟨g, off, cur, h1, by omega, h3⟩⟩
theorem Que.le (h : Que w base e size A n c xs) : n ≤ c ∧ c ≤ maxLen := by
  obtain ⟨h0, ⟨rfl, rfl⟩ | ⟨g, off, cur, h1, h2, h3, h4, h5, _⟩⟩ := h
  · exact ⟨Nat.le_refl _, Nat.zero_le _⟩
  · exact ⟨h4, h5⟩
/-- it stays while blocks of its element type stay -/
theorem Que.keep (h : Que w base e size A n c xs) (hk : ∀ (g : Nat) (cur : Array Value), w.heap[g]? = some (Obj.cells cur e (0, 0)) → w'.heap[g]? = w.heap[g]?) : Que w' base e size A n c xs := by
  obtain ⟨h0, h | ⟨g, off, cur, h1, h2, h3, h4⟩⟩ := h
  · exact ⟨h0, .inl h⟩
  · exact ⟨h0, .inr ⟨g, off, cur, h1, h2, (hk g cur h3).trans h3, h4⟩⟩
theorem Que.sl (h : Que w base e size A n c xs) : Sl w w.heap.size size A n xs := by
  obtain ⟨h0, ⟨rfl, rfl⟩ | ⟨g, off, cur, h1, h2, h3, h4, h5, h6, h7⟩⟩ := h
  · exact ⟨h0, fun h => absurd h (by omega)⟩
  · refine ⟨h0, fun _ => ⟨g, off, h1, (Array.getElem?_eq_some_iff.1 h3).1, fun j u hu => ?_⟩⟩
    rw [← h7, List.getElem?_take] at hu
    split at hu
    · rw [List.getElem?_drop] at hu
      simp [World.cell?, h3]
      simpa using hu
    · cases hu
/-- s[1:] -/
theorem Que.tail {g off : Nat} (h : Que w base e size (some ⟨g, off, none⟩) (n + 1) c xs) : Que w base e size (some ⟨g, off + size, none⟩) n (c - 1) (xs.drop size) := by
  obtain ⟨h0, ⟨h1, _⟩ | ⟨g', off', cur, h1, h2, h3, h4, h5, h6, h7⟩⟩ := h
  · omega
  · simp at h1
    obtain ⟨rfl, rfl⟩ := h1
    have hc : c * size = (c - 1) * size + size := by
      have : c = (c - 1) + 1 := by omega
      rw [this, Nat.add_mul]; simp
    have hn : (n + 1) * size = n * size + size := by rw [Nat.add_mul]; simp
    refine ⟨by rw [List.length_drop, h0, hn]; omega, .inr ⟨g, off + size, cur, rfl, h2, h3, by omega, by omega, by omega, ?_⟩⟩
    rw [← h7, hn, List.drop_take, List.drop_drop]
    congr 1
    omega
theorem run_append_que (t ty : TypeId) (i : TypeInfo) (z : Value) (bytes : Nat) (ht : P.underlying t = some (.slice e)) (hi : P.info? e = some i) (hz : i.zero = some z)
    (hsize : i.size = size) (hby : i.bytes = bytes) (hzs : z.cells.size = size) (hsz : 0 < size) (ha : Que w base e size A n c xs)
    {B : Nat} {A' : Option Addr} {m c' : Nat} {ys : List Value} (hsl : Sl w B size A' m ys) (h1 : ∀ u ∈ ys, u.oneCell' = true) (hm : 0 < m)
    (h63 : n + m ≤ maxLen) (hbytes : (n + m) * bytes ≤ 140737488355328) (hbase : base ≤ w.heap.size) :
    ∃ A2 c2 w' row, (Builtin.append_ #[t, t] ty #[.slice A n c, .slice A' m c']).run P w = .ok (.slice A2 (n + m) c2) w' ∧ Que w' base e size A2 (n + m) c2 (xs ++ ys) ∧ w.grownBy w' row ∧ (∀ g, row = some g → base ≤ g ∧ (∃ cur, w.heap[g]? = some (.cells cur e (0, 0))) ∧ c ≠ 0 ∧ ∃ off, A = some ⟨g, off, none⟩) ∧ ∀ g off, A2 = some ⟨g, off, none⟩ → (c ≠ 0 ∧ ∃ off, A = some ⟨g, off, none⟩) ∨ w.heap.size ≤ g := by
  obtain ⟨h0, ⟨rfl, rfl⟩ | ⟨g, off, cur, rfl, h2, h3, h4, h5, h6, h7⟩⟩ := ha
  · have hx : xs = [] := List.eq_nil_of_length_eq_zero (by simpa using h0)
    subst hx
    obtain ⟨A2, c2, w2, hr, ho, hg, hc1, hc2⟩ := run_append_empty (P := P) (base := w.heap.size) t ty i z bytes ht hi hz hsize hby hzs hsz (c' := c') hsl h1 (by omega) (by rw [Nat.zero_add] at hbytes; exact hbytes) (Nat.le_refl _) A
    rw [Nat.zero_add, List.nil_append]
    rcases ho with ho | ⟨e1, _⟩
    · refine ⟨A2, c2, w2, none, hr, (Que.of_own ho).more hbase, ⟨hg.os, hg.tape, hg.output, hg.size, fun k hk _ => hg.block k hk⟩, (fun g h => by cases h), fun g off e => .inr ?_⟩
      subst e
      exact (ho.lt g rfl).1
    · omega
  · obtain ⟨b', off', rfl, hb', hcy⟩ := hsl.2 hm
    have hnews : ∀ j u, ys[j]? = some u → w.cell? (Addr.add ⟨b', off', none⟩ j) = some u := fun j u hj => by rw [Addr.add_lit]; exact hcy j u hj
    by_cases hroom : n + m ≤ c
    · subst hsize
      have hf := run_firstCells_some (P := P) w i.size m ⟨b', off', none⟩ m c' ys hsl.1 hnews
      have hfit : off + n * i.size + ys.length ≤ cur.size := by
        rw [hsl.1, h6, Nat.add_assoc, ← Nat.add_mul]; exact Nat.add_le_add_left (Nat.mul_le_mul_right _ hroom) _
      have hst := run_storeCells_at P g (off + n * i.size) e ys 0 cur w h3 (by simpa using hfit) h1
      simp only [Nat.add_zero] at hst
      refine ⟨some ⟨g, off, none⟩, c, w.setRow g (cur.toList.take (off + n * i.size) ++ ys ++ cur.toList.drop (off + n * i.size + ys.length)).toArray, some g, ?_, ?_, ⟨rfl, rfl, rfl, by simp, fun k _ hk => setRow_other w g k _ (fun e => hk (by simp [e]))⟩, (fun g' e' => by cases e'; exact ⟨h2, ⟨cur, h3⟩, by omega, off, rfl⟩), fun g' o' e' => .inl ⟨by omega, off, by cases e'; rfl⟩⟩
      · simp [Builtin.append_, run_underlying ht, sizeOf, typeInfo, hi, Builtin.lenOf, hroom, hf, Addr.add_lit, hst]
      · have hlen : (xs ++ ys).length = (n + m) * i.size := by rw [List.length_append, h0, hsl.1, Nat.add_mul]
        refine ⟨hlen, .inr ⟨g, off, _, rfl, h2, setRow_heap w g cur _ e _ h3, hroom, h5, ?_, ?_⟩⟩
        · simp only [List.size_toArray, List.length_append, List.length_take, List.length_drop, Array.length_toList]
          omega
        · have e1 : cur.toList.take (off + n * i.size) = cur.toList.take off ++ xs := by rw [← h7, List.take_add]
          have e2 : (cur.toList.take off).length = off := by rw [List.length_take, Array.length_toList]; omega
          simp only [e1, List.append_assoc]
          rw [List.drop_append_of_le_length (by omega), List.drop_of_length_le (by omega), List.nil_append, ← List.append_assoc, ← hlen]
          exact List.take_left
    · obtain ⟨v', w2, hrun, r1, r2⟩ := run_append_arg_grows (P := P) w t ty e i z size bytes ht hi hz hsize hby hzs hsz ⟨g, off, none⟩ n c xs h0 (fun j u hj => by
        rw [Addr.add_lit]
        have := (Que.sl (w := w) (base := base) (e := e) (c := c) ⟨h0, .inr ⟨g, off, cur, rfl, h2, h3, h4, h5, h6, h7⟩⟩).2
        rcases Nat.eq_zero_or_pos n with hn | hn
        · subst hn
          have hx : xs = [] := List.eq_nil_of_length_eq_zero (by simpa using h0)
          subst hx; simp at hj
        · obtain ⟨b1, o1, e1, _, hc1⟩ := this hn
          simp at e1
          obtain ⟨rfl, rfl⟩ := e1
          exact hc1 j u hj) ⟨b', off', none⟩ m c' ys hsl.1 hnews (by omega) h63 hbytes
      rcases r1.2 with ⟨_, h8⟩ | ⟨g2, cap2, cur2, rfl, h8, _⟩
      · omega
      · exact ⟨_, cap2, w2, none, hrun, (Que.of_own r1).more hbase, r2, (fun g h => by cases h), fun g' o' e' => .inr (by cases e'; exact h8)⟩
end
end Go.Proofs.YtiphbincnnppdaaDoor

namespace Go.Proofs.YtiphbincnnppdaaDoor
open Go.RowKit Go.Maps

/-- an element reads as itself -/
def rawR (v : Value) : Option (DataW Value × List MemPlace) := some (.held v, [])
theorem rawR_inv {v u : Value} {ps : List MemPlace} (h : rawR v = some (.held u, ps)) : v = u := by
  simp [rawR] at h; exact h.1
/-- Block b is a map with at most N entries; g tells what a key has. -/
def Rm (w : World) (P : Program) (k : TypeId) (b N : Nat) (g : ByteArray → Option Value) : Prop :=
  ∃ D : DataW Value, w.ownsMap P k rawR b N D ∧ ∀ s : ByteArray, Maps.has D (.string s.data.toList) = (g s).isSome ∧ ∀ z, D.atKey (.string s.data.toList) (.held z) = .held ((g s).getD z)
def upd (g : ByteArray → Option Value) (s : ByteArray) (v : Value) : ByteArray → Option Value := fun t => if t = s then some v else g t
theorem upd_same (g : ByteArray → Option Value) (s : ByteArray) (v : Value) : upd g s v s = some v := by simp [upd]
theorem upd_other (g : ByteArray → Option Value) {s t : ByteArray} (v : Value) (h : t ≠ s) : upd g s v t = g t := by simp [upd, h]

section
variable {w w' : World} {P : Program} {k t e : TypeId} {b N : Nat} {g : ByteArray → Option Value}
theorem Rm.made (w : World) (P : Program) (k : TypeId) : Rm (w.alloc (.map #[] 0)) P k w.heap.size 0 (fun _ => none) :=
  ⟨.map [], World.ownsMap_made w P k rawR, fun _ => ⟨rfl, fun _ => rfl⟩⟩
theorem Rm.lt (h : Rm w P k b N g) : b < w.heap.size := h.choose_spec.1.lt
theorem Rm.more (h : Rm w P k b N g) {M : Nat} (hm : N ≤ M) : Rm w P k b M g := by
  obtain ⟨D, h1, h2⟩ := h; exact ⟨D, h1.mono hm, h2⟩
theorem Rm.kept {row : Option Nat} (h : Rm w P k b N g) (hg : w.grownBy w' row) (hr : some b ≠ row) : Rm w' P k b N g := by
  obtain ⟨D, h1, h2⟩ := h; exact ⟨D, h1.kept hg hr, h2⟩
theorem Rm.below {B : Nat} (h : Rm w P k b N g) (hb : Below B w w') (hB : b < B) : Rm w' P k b N g := by
  obtain ⟨D, ⟨es, clock, h1, h2⟩, h3⟩ := h
  exact ⟨D, ⟨es, clock, (hb.block b hB).trans h1, h2⟩, h3⟩
theorem Rm.alloc (h : Rm w P k b N g) (o : Obj) : Rm (w.alloc o) P k b N g := h.kept (World.grownBy_alloc w o none) (by simp)
theorem key_str (hk : P.underlying k = some .string) {s : ByteArray} (hs : s.size ≤ maxLen) : keyOf P k (.string s) = some (.string s.data.toList) := by simp [keyOf, hk, mapKey]; exact hs
theorem Rm.look (h : Rm w P k b N g) (hk : P.underlying k = some .string) (ht : P.underlying t = some (.map k e)) {z : Value} (hz : (zeroValue e).run P w = .ok z w) {s : ByteArray} (hs : s.size ≤ maxLen) :
    (Instr.lookup t (.map (some b)) (.string s) false).run P w = .ok ((g s).getD z) w := by
  obtain ⟨D, h1, h2⟩ := h
  obtain ⟨v, ps, hrun, hv⟩ := h1.lookup (string_keyed hk) ht hz (zd := .held z) (zp := []) rfl (key_str hk hs)
  rw [(h2 s).2 z] at hv
  rw [hrun, rawR_inv hv]
theorem Rm.look_ok (h : Rm w P k b N g) (hk : P.underlying k = some .string) (ht : P.underlying t = some (.map k e)) {z : Value} (hz : (zeroValue e).run P w = .ok z w) {s : ByteArray} (hs : s.size ≤ maxLen) :
    (Instr.lookup t (.map (some b)) (.string s) true).run P w = .ok (.tuple #[(g s).getD z, .bool (g s).isSome]) w := by
  obtain ⟨D, h1, h2⟩ := h
  obtain ⟨v, ps, hrun, hv⟩ := h1.look_ok (string_keyed hk) ht hz (zd := .held z) (zp := []) rfl (key_str hk hs)
  rw [(h2 s).2 z] at hv
  rw [hrun, rawR_inv hv, (h2 s).1]
theorem lit_ne {s r : ByteArray} (h : r ≠ s) : (Lit.string r.data.toList) ≠ .string s.data.toList := fun e => h (data_inj (by injection e))
theorem Rm.put (h : Rm w P k b N g) (hk : P.underlying k = some .string) (ht : P.underlying t = some (.map k e)) (hn : N < maxLen) {s : ByteArray} (hs : s.size ≤ maxLen) (v : Value) :
    ∃ w', (Instr.mapUpdate t (.map (some b)) (.string s) v).run P w = .ok () w' ∧ Rm w' P k b (N + 1) (upd g s v) ∧ w.grownBy w' (some b) := by
  obtain ⟨D, h1, h2⟩ := h
  obtain ⟨w', hrun, ho, hg⟩ := h1.update (string_keyed hk) ht hn (key_str hk hs) (d := .held v) (ps := []) rfl
  refine ⟨w', hrun, ⟨_, ho, fun r => ?_⟩, hg⟩
  have hkl := (string_keyed hk).key (key_str hk hs)
  by_cases hr : r = s
  · subst hr
    rw [upd_same, has_put_same h1.isMap hkl]
    exact ⟨rfl, fun z => atKey_put_same h1.isMap hkl _ _⟩
  · rw [upd_other _ _ hr, has_put_other (lit_ne hr)]
    exact ⟨(h2 r).1, fun z => (atKey_put_other (lit_ne hr) _ _).trans ((h2 r).2 z)⟩
/-- at the operation -/
theorem wpList_put_rm {ops : Array Oper} {rest : List Oper} {o : Oper} {a : Act} {Q : Exit → Act → World → Prop} (hgd : o.guard = none) (m x y : Operand) (t : TypeId) (hop : o.op = Op.mapUpdate t m x y)
    (k e : TypeId) (hk : P.underlying k = some .string) (ht : P.underlying t = some (.map k e)) (b N : Nat) (g : ByteArray → Option Value) (hm : a.eval m = .map (some b)) (h : Rm w P k b N g) (hn : N < maxLen)
    (s : ByteArray) (hs : s.size ≤ maxLen) (v : Value) (hx : a.eval x = .string s) (hy : a.eval y = v)
    (hK : ∀ w', Rm w' P k b (N + 1) (upd g s v) → w.grownBy w' (some b) → wpList P ops Q rest (a.put o.dst undef) w') : wpList P ops Q (o :: rest) a w := by
  refine wpList_plain hgd fun K' hK' => ?_
  obtain ⟨w', hrun, r1, r2⟩ := h.put hk ht hn hs v
  unfold Oper.wp
  simp [execOp, hop, hm, hx, hy, hrun, Result.andThen]
  exact hK' _ _ (hK w' r1 r2)

/-! ### ranging -/
/-- The map in block b is being ranged over by the iterator in block r: left are the keys that are still to come. -/
def RmR (w : World) (P : Program) (k : TypeId) (b r N : Nat) (g : ByteArray → Option Value) (left : ByteArray → Bool) (cnt : Nat) : Prop :=
  ∃ (D : DataW Value) (lf : Lit → Bool), w.ranges P k rawR b r N D lf cnt ∧ (∀ s : ByteArray, Maps.has D (.string s.data.toList) = (g s).isSome ∧ ∀ z, D.atKey (.string s.data.toList) (.held z) = .held ((g s).getD z)) ∧ ∀ s : ByteArray, lf (.string s.data.toList) = left s
variable {r cnt : Nat} {left : ByteArray → Bool}
theorem RmR.rm (h : RmR w P k b r N g left cnt) : Rm w P k b N g := by
  obtain ⟨D, lf, ⟨es, clock, since, seen, c0, hb, F, hs, hD, _⟩, h2, _⟩ := h
  exact ⟨D, ⟨es, clock, hb, F, hs, hD⟩, h2⟩
theorem RmR.kept {row : Option Nat} (h : RmR w P k b r N g left cnt) (hg : w.grownBy w' row) (hb : some b ≠ row) (hr : some r ≠ row) : RmR w' P k b r N g left cnt := by
  obtain ⟨D, lf, ⟨es, clock, since, seen, c0, h1, F, hs, hD, h3, h4⟩, h2, h5⟩ := h
  exact ⟨D, lf, ⟨es, clock, since, seen, c0, (hg.block b (Array.getElem?_eq_some_iff.1 h1).1 hb).trans h1, F, hs, hD, (hg.block r (Array.getElem?_eq_some_iff.1 h3).1 hr).trans h3, h4⟩, h2, h5⟩
theorem RmR.below {B : Nat} (h : RmR w P k b r N g left cnt) (hw : Below B w w') (hb : b < B) (hr : r < B) : RmR w' P k b r N g left cnt := by
  obtain ⟨D, lf, ⟨es, clock, since, seen, c0, h1, F, hs, hD, h3, h4⟩, h2, h5⟩ := h
  exact ⟨D, lf, ⟨es, clock, since, seen, c0, (hw.block b hb).trans h1, F, hs, hD, (hw.block r hr).trans h3, h4⟩, h2, h5⟩
theorem RmR.left_ (h : RmR w P k b r N g left cnt) : w.rangeLeft b r = cnt := by
  obtain ⟨D, lf, ⟨es, clock, since, seen, c0, h1, F, hs, hD, h3, _, h4, _⟩, _⟩ := h
  simp [World.rangeLeft, h1, h3, h4]
theorem key_inv (hk : P.underlying k = some .string) {key : Value} {kl : Lit} (h : keyOf P k key = some kl) : ∃ s : ByteArray, key = .string s ∧ kl = .string s.data.toList ∧ s.size ≤ maxLen := by
  cases key <;> simp [keyOf, hk, mapKey] at h
  exact ⟨_, rfl, h.2.symm, h.1⟩
theorem same_str (s z : ByteArray) : (Lit.string z.data.toList).sameKey (.string s.data.toList) = decide (z = s) := by
  rw [sameKey_str]
  by_cases h : z = s
  · subst h; simp
  · simp only [h, decide_false]
    rw [beq_eq_false_iff_ne]; exact fun e => h (data_inj e)
theorem wpList_range_rm {ops : Array Oper} {rest : List Oper} {o : Oper} {a : Act} {Q : Exit → Act → World → Prop} (hgd : o.guard = none) (m : Operand) (t : TypeId) (hop : o.op = Op.range t m)
    (k e : TypeId) (hk : P.underlying k = some .string) (ht : P.underlying t = some (.map k e)) (b N : Nat) (g : ByteArray → Option Value) (hm : a.eval m = .map (some b)) (h : Rm w P k b N g)
    (hK : ∀ w' cnt, RmR w' P k b w.heap.size N g (fun s => (g s).isSome) cnt → w.grownBy w' none → w'.heap.size = w.heap.size + 1 → wpList P ops Q rest (a.put o.dst (.pointer (some ⟨w.heap.size, 0, none⟩))) w') : wpList P ops Q (o :: rest) a w := by
  obtain ⟨D, h1, h2⟩ := h
  refine wpList_range_own w hgd m t hop k e (string_keyed hk) ht rawR b N D hm h1 (fun w' h3 h4 h5 => hK w' _ ⟨D, _, h3, h2, fun s => (h2 s).1⟩ h4 h5)
theorem wpList_next_rm {ops : Array Oper} {rest : List Oper} {o : Oper} {a : Act} {Q : Exit → Act → World → Prop} (hgd : o.guard = none) (it : Operand) (hop : o.op = Op.next it false)
    (k : TypeId) (hk : P.underlying k = some .string) (b r N : Nat) (g : ByteArray → Option Value) (left : ByteArray → Bool) (cnt : Nat) (hit : a.eval it = .pointer (some ⟨r, 0, none⟩)) (h : RmR w P k b r N g left cnt)
    (hDone : (∀ s, left s = false) → wpList P ops Q rest (a.put o.dst (.tuple #[.bool false])) w)
    (hMore : ∀ (s : ByteArray) (v : Value) (w' : World) (cnt' : Nat), s.size ≤ maxLen → left s = true → g s = some v → RmR w' P k b r N g (fun z => left z && !decide (z = s)) cnt' → cnt' < cnt → w.grownBy w' (some r) → w'.heap.size = w.heap.size →
      (Instr.entry (.pointer (some ⟨r, 0, none⟩))).run P w' = .ok (.tuple #[.string s, v]) w' → wpList P ops Q rest (a.put o.dst (.tuple #[.bool true, .string s, v])) w') : wpList P ops Q (o :: rest) a w := by
  obtain ⟨D, lf, h1, h2, h3⟩ := h
  refine wpList_next_ranges (α := ByteArray) (β := Value) w hgd it hop k (string_keyed hk) rawR (fun s => .string s) id (fun key kl hkey => ?_) (fun v y _ => ⟨v, rfl⟩) b r N D lf cnt hit h1
    (fun _ hl => hDone fun s => by rw [← h3 s]; exact hl _) (fun s v kl y w' cnt' hkey hlk hv hat hrg hlt hgr hsz hen => ?_)
  · obtain ⟨s, e, _⟩ := key_inv hk hkey; exact ⟨s, e⟩
  · obtain ⟨s', e1, e2, hz⟩ := key_inv hk hkey
    cases e1
    subst e2
    have hl : left s = true := by rw [← h3 s]; exact hlk
    have hy : y = (.held v, []) := by simp [rawR] at hv; exact hv.symm
    subst hy
    have hg1 : (g s).isSome = true := by rw [← (h2 s).1]; exact has_true_of_atKey hat
    obtain ⟨u, hu⟩ := Option.isSome_iff_exists.1 hg1
    have hg2 : g s = some v := by
      have e1 := (h2 s).2 v
      rw [hat] at e1
      rw [hu] at e1 ⊢
      simp at e1
      rw [e1]
    exact hMore s v w' cnt' hz hl hg2 ⟨D, _, hrg, h2, fun z => by simp only [h3, same_str]⟩ hlt hgr hsz hen
end
end Go.Proofs.YtiphbincnnppdaaDoor

namespace Go.Proofs.YtiphbincnnppdaaDoor
open Go.RowKit

/-- What an iterator does that keeps its state in memory of its own: it may change the world by steps St between two rounds; it hands over elements; all have come (S), or a part of them (Sp). -/
def SeqT {α : Type} (F : Fence) (n : Nat) (P : Program) (g : Nat) (lb : Array Value) (encs : α → Array Value) (Kp St : World → World → Prop) (Pf S Sp : List α → Prop) (hz : Nat) (w : World) : Prop :=
  ∀ (l : Nat) (J Jx : List α → World → Prop) (W : World), Below w.heap.size w W → W.heap.size = hz → (∀ pre A B, J pre A → St A B → J pre B) →
    (∀ pre x W1, Pf (pre ++ [x]) → J pre W1 → YieldAt F (n - 1) P l (encs x) W1 fun e W' =>
      (e = .returned (.bool true) ∧ J (pre ++ [x]) W' ∧ Kp W1 W') ∨ (e = .returned (.bool false) ∧ Jx (pre ++ [x]) W')) →
    J [] W →
    CallsIn F n P g (#[.func (.yield l) #[] #[]] ++ lb) W fun e W' => (∃ v, e = .returned v) ∧ ((∃ xs, S xs ∧ J xs W') ∨ (∃ pre, Sp pre ∧ Jx pre W'))

/-- the loop's own two blocks are as they were -/
def Rec2 (D : Nat) (W W' : World) : Prop := W'.heap[D]? = W.heap[D]? ∧ W'.heap[D + 1]? = W.heap[D + 1]?
theorem Rec2.refl (D : Nat) (W : World) : Rec2 D W W := ⟨rfl, rfl⟩
def ownPostT {α : Type} (D : Nat) (Kp : World → World → Prop) (I : List α → World → Prop) (Ix : Code → List α → World → Prop) (xs : List α) (W : World) : Exit → Act → World → Prop
  | .normal, _, W' => Rec2 D W W' ∧ Kp W W' ∧ I xs W'
  | .ret, _, W' => Rec2 D W W' ∧ Ix .ret xs W'
  | .exit id, _, W' => Rec2 D W W' ∧ Ix (.exit id) xs W'
  | .goto t, _, W' => Rec2 D W W' ∧ Ix (.goto t) xs W'
  | .panic _, _, _ => False
  | .outgrown, _, _ => False
variable {F : Fence} {n : Nat} {P : Program}

theorem wpIn_rangeT {α : Type} {g : Operand} {ps : Array Tmp} {assign body : Code} {Q : Exit → Act → World → Prop} {a : Act} {w : World}
    (hro : F.round = none) (h1 : 1 ≤ n) {gf : Nat} {lb : Array Value} (hg : a.eval g = .func (.func gf) #[] lb) (hFg : F.fn gf) (eg : ∀ args w, (callFunc gf args).run P w = .ok (.enter gf args) w)
    {encs : α → Array Value} {Kp St : World → World → Prop} {Pf S Sp : List α → Prop} {w0 : World} (hseq : SeqT F (n - 1) P gf lb encs Kp St Pf S Sp (w.heap.size + 2) w0)
    (hKt : ∀ {A B C : World}, Kp A B → Kp B C → Kp A C) (hKb : ∀ (W : World) (l : Nat) (r : Loop) (o' : Obj), w.heap.size + 1 = l → W.heap[l]? = some (.loop r) → Kp W (W.putObj l o')) (hSo : ∀ A B, St A B → w.heap.size + 2 ≤ A.heap.size → Rec2 w.heap.size A B) (hb0 : Below w0.heap.size w0 w) (hps : ∀ x, (encs x).size = ps.size)
    (I : List α → World → Prop) (Ix : Code → List α → World → Prop) (hI : OwnFrom w.heap.size I) (hIx : ∀ c, OwnFrom w.heap.size (Ix c)) (hIS : ∀ pre A B, I pre A → St A B → I pre B) (h0 : I [] w) (a₁ : α → Act)
    (hassign : ∀ (l : Nat) (x : α) (W : World) (K : Act → World → Prop), K (a₁ x) W →
      assign.wpIn (F.inRound l) (n - 1 - 1) P (Exit.then K (fun _ _ _ => False)) { tmps := (ps.zip (encs x)).foldl (fun t (p, v) => t.setIfInBounds p v) a.tmps, defers := [] } W)
    (hbody : ∀ (l : Nat) (pre : List α) (x : α) (W : World), Pf (pre ++ [x]) → w.heap.size + 2 ≤ W.heap.size → I pre W → body.wpIn (F.inRound l) (n - 1 - 1) P (ownPostT w.heap.size Kp I Ix (pre ++ [x]) W) (a₁ x) W)
    (hdone : ∀ (D : Nat) (xs : List α) (W : World), w.heap.size ≤ D → S xs → I xs W → W.heap[D]? = some (.deferred (some [])) → Q .normal { a with defers := { target := .collected D, args := #[] } :: a.defers } W)
    (hstop : ∀ (D : Nat) (c : Code) (pre : List α) (W : World), w.heap.size ≤ D → Sp pre → Ix c pre W → W.heap[D]? = some (.deferred (some [])) → c.wpIn F n P Q { a with defers := { target := .collected D, args := #[] } :: a.defers } W) :
    (Code.rangeFunc g ps assign body).wpIn F n P Q a w := by
  refine wpIn_rangeFunc ?_
  intro fn hfn
  rw [hro]
  -- the loop's record in block L, the block of its deferred calls in block D
  obtain ⟨D, hD⟩ : ∃ D, w.heap.size = D := ⟨_, rfl⟩
  obtain ⟨rec, hrec⟩ : ∃ rec : LoopState → Option Code → Loop, rec = fun st pe => { state := st, pending := pe, fn, tmps := a.tmps, params := ps, assign, body, defers := D } := ⟨_, rfl⟩
  obtain ⟨W1, hW1⟩ : ∃ W1, (w.alloc (.deferred (some []))).alloc (.loop (rec .ready none)) = W1 := ⟨_, rfl⟩
  have hL1 : W1.heap[D + 1]? = some (.loop (rec .ready none)) := by
    rw [← hW1, ← hD]; have := World.alloc_heap_new (w.alloc (.deferred (some []))) (.loop (rec .ready none)); rwa [World.size_alloc] at this
  have hK1 : W1.heap[D]? = some (.deferred (some [])) := by
    rw [← hW1, ← hD]; exact (Below.heap_alloc _ _ _ (by simp)).trans (World.alloc_heap_new w _)
  have hI1 : I [] W1 := by rw [← hW1]; exact hI.alloc _ (hI.alloc _ h0)
  have hb1 : Below w0.heap.size w0 W1 := by
    rw [← hW1]; exact hb0.trans ((((Below.refl _ w).alloc (Nat.le_refl _) _).alloc (by simp) _).mono hb0.size)
  refine ⟨D + 1, [{ target := .collected D, args := #[] }], W1, { target := .fn (.func gf) lb, args := #[.func (.yield (D + 1)) #[] #[]] }, W1, gf,
    #[.func (.yield (D + 1)) #[] #[]] ++ lb, W1, ?_, ?_, ?_, ?_, fun _ => h1, ?_⟩
  · rw [← hW1, hrec, ← hD]; exact run_enterLoop_outer _ _ _ _ _
  · simp only [resolve, hg]
    simp [go_sem]
  · intro f' hf'; simp [Target.leads] at hf'; subst hf'; exact hFg
  · simp [invoke, go_sem, eg]
  · refine (hseq (D + 1)
      (fun pre W => I pre W ∧ W.heap[D + 1]? = some (.loop (rec .ready none)) ∧ W.heap[D]? = some (.deferred (some [])))
      (fun pre W => ∃ c, Ix c pre W ∧ W.heap[D + 1]? = some (.loop (rec .done (some c))) ∧ W.heap[D]? = some (.deferred (some [])))
      W1 hb1 (by rw [← hW1]; simp)
      (fun pre A B hs hst => by
        have hz2 := (Array.getElem?_eq_some_iff.1 hs.2.1).1
        have hr := hSo A B hst (by omega)
        rw [hD] at hr
        exact ⟨hIS pre A B hs.1 hst, hr.2.trans hs.2.1, hr.1.trans hs.2.2⟩)
      ?_ ⟨hI1, hL1, hK1⟩).mono ?_
    · rintro pre x W hpf ⟨hi, hl, hk⟩
      have hlt : D + 1 < W.heap.size := (Array.getElem?_eq_some_iff.1 hl).1
      have hy := run_yield (P := P) (args := encs x) hl (by rw [hrec]; exact hps x)
      rw [hrec] at hy
      refine ⟨fn, _, assign, body, hy, roundIn_of_wpIn hfn (hassign _ x W _ ⟨_, run_beginRound hl (by rw [hrec]), ?_⟩)⟩
      obtain ⟨W2, hW2⟩ : ∃ W2, W.putObj (D + 1) (.loop { rec .ready none with state := .busy }) = W2 := ⟨_, rfl⟩
      have hl2 : W2.heap[D + 1]? = some (.loop { rec .ready none with state := .busy }) := by rw [← hW2]; exact World.putObj_heap_same hlt
      have hk2 : W2.heap[D]? = some (.deferred (some [])) := by rw [← hW2]; exact (World.putObj_heap_other (by omega)).trans hk
      have hw2 : Kp W W2 := by rw [← hW2]; exact hKb _ _ _ _ (by omega) hl
      have hi2 : I pre W2 := by rw [← hW2]; exact hI.putObj _ hi (by omega) hl rfl
      rw [hW2]
      refine wpIn_mono (hbody _ pre x _ hpf (by have := (Array.getElem?_eq_some_iff.1 hl2).1; omega) hi2) ?_
      have fin : ∀ (jump : Option Code) (W3 : World), Rec2 w.heap.size W2 W3 →
          (Instr.endRound (D + 1) jump).run P W3 = .ok (.bool jump.isNone) (W3.putObj (D + 1) (.loop (rec (if jump.isNone then .ready else .done) jump))) ∧
          W3.heap[D + 1]? = some (.loop { rec .ready none with state := .busy }) ∧
          (W3.putObj (D + 1) (.loop (rec (if jump.isNone then .ready else .done) jump))).heap[D + 1]? = some (.loop (rec (if jump.isNone then .ready else .done) jump)) ∧
          (W3.putObj (D + 1) (.loop (rec (if jump.isNone then .ready else .done) jump))).heap[D]? = some (.deferred (some [])) := fun jump W3 hk3 => by
        rw [hD] at hk3
        have hl3 := hk3.2.trans hl2
        have := run_endRound (P := P) jump hl3
        rw [hrec] at this ⊢
        exact ⟨this, by rw [hrec] at hl3; exact hl3, World.putObj_heap_same (Array.getElem?_eq_some_iff.1 hl3).1, (World.putObj_heap_other (by omega)).trans (hk3.1.trans hk2)⟩
      rintro e a3 W3 hp
      cases e with
      | normal =>
        obtain ⟨hk3, hkp3, hi3⟩ := hp
        obtain ⟨hr, hl3, hl4, hk4⟩ := fin none W3 hk3
        exact ⟨_, _, hr, .inl ⟨rfl, ⟨hI.putObj _ hi3 (by omega) hl3 rfl, hl4, hk4⟩, hKt (hKt hw2 hkp3) (hKb _ _ _ _ (by omega) hl3)⟩⟩
      | ret =>
        obtain ⟨hk3, hi3⟩ := hp
        obtain ⟨hr, hl3, hl4, hk4⟩ := fin (some .ret) W3 hk3
        exact ⟨_, _, hr, .inr ⟨rfl, .ret, (hIx _).putObj _ hi3 (by omega) hl3 rfl, hl4, hk4⟩⟩
      | exit id =>
        obtain ⟨hk3, hi3⟩ := hp
        obtain ⟨hr, hl3, hl4, hk4⟩ := fin (some (.exit id)) W3 hk3
        exact ⟨_, _, hr, .inr ⟨rfl, .exit id, (hIx _).putObj _ hi3 (by omega) hl3 rfl, hl4, hk4⟩⟩
      | goto t =>
        obtain ⟨hk3, hi3⟩ := hp
        obtain ⟨hr, hl3, hl4, hk4⟩ := fin (some (.goto t)) W3 hk3
        exact ⟨_, _, hr, .inr ⟨rfl, .goto t, (hIx _).putObj _ hi3 (by omega) hl3 rfl, hl4, hk4⟩⟩
      | panic ch => exact hp.elim
      | outgrown => exact hp.elim
    · rintro e W2 ⟨⟨v, rfl⟩, (⟨xs, hS, hi, hl, hk⟩ | ⟨pre, hSp, c, hi, hl, hk⟩)⟩
      · exact ⟨none, _, by have := run_endLoop (P := P) hl (by rw [hrec]; simp); rw [hrec] at this; exact this, hdone _ xs _ (by omega) hS (hI.putObj _ hi (by omega) hl rfl) ((World.putObj_heap_other (by omega)).trans hk)⟩
      · exact ⟨some c, _, by have := run_endLoop (P := P) hl (by rw [hrec]; simp); rw [hrec] at this; exact this, hstop _ c pre _ (by omega) hSp ((hIx c).putObj _ hi (by omega) hl rfl) ((World.putObj_heap_other (by omega)).trans hk)⟩
end Go.Proofs.YtiphbincnnppdaaDoor

namespace Go.Proofs.YtiphbincnnppdaaDoor
open Go.RowKit Go.Maps

section
variable {F : Fence} {n' : Nat} {P : Program} {w : World}
theorem wpListIn_append_que {base size : Nat} {ops : Array Oper} {rest : List Oper} {o : Oper} {a : Act} {Q : Exit → Act → World → Prop} (hgd : o.guard = none) (s x : Operand) (t : TypeId)
    (ho : o.op = .call { callee := .builtin .append, args := #[s, x], argTypes := #[t, t] })
    (e : TypeId) (i : TypeInfo) (z : Value) (bytes : Nat) (ht : P.underlying t = some (.slice e)) (hi : P.info? e = some i) (hz : i.zero = some z)
    (hsize : i.size = size) (hby : i.bytes = bytes) (hzs : z.cells.size = size) (hsz : 0 < size)
    (A : Option Addr) (n c : Nat) (xs : List Value) (hs : a.eval s = .slice A n c) (hown : Que w base e size A n c xs)
    (B : Nat) (A' : Option Addr) (m c' : Nat) (ys : List Value) (hx : a.eval x = .slice A' m c') (hsl : Sl w B size A' m ys) (h1 : ∀ u ∈ ys, u.oneCell' = true) (hm : 0 < m)
    (h63 : n + m ≤ maxLen) (hbytes : (n + m) * bytes ≤ 140737488355328) (hbase : base ≤ w.heap.size)
    (h : ∀ A2 c2 w' row, Que w' base e size A2 (n + m) c2 (xs ++ ys) → w.grownBy w' row → (∀ g, row = some g → base ≤ g ∧ (∃ cur, w.heap[g]? = some (.cells cur e (0, 0))) ∧ c ≠ 0 ∧ ∃ off, A = some ⟨g, off, none⟩) → (∀ g off, A2 = some ⟨g, off, none⟩ → (c ≠ 0 ∧ ∃ off, A = some ⟨g, off, none⟩) ∨ w.heap.size ≤ g) → wpListIn F n' P ops Q rest (a.put o.dst (.slice A2 (n + m) c2)) w') : wpListIn F n' P ops Q (o :: rest) a w := by
  refine wpListIn_plain hgd fun K hK => ?_
  obtain ⟨A2, c2, w', row, hr, h2, h3, h4, h5⟩ := run_append_que (P := P) t o.type i z bytes ht hi hz hsize hby hzs hsz hown (c' := c') hsl h1 hm h63 hbytes hbase
  unfold Oper.wpIn
  refine ⟨?_, ?_⟩
  · simp [Oper.about, ho, resolve, Target.leads, Sem.run_pure]
  · rw [Oper.semAt_plain F _ _ (by rw [ho]; intro c hc'; cases hc')]
    simp [execOp, ho, resolve, invoke, builtin, hs, hx, hr, Result.andThen]
    exact hK _ _ (h A2 c2 w' row h2 h3 h4 h5)
theorem wpListIn_append_sl {base size : Nat} {ops : Array Oper} {rest : List Oper} {o : Oper} {a : Act} {Q : Exit → Act → World → Prop} (hgd : o.guard = none) (s x : Operand) (t : TypeId)
    (ho : o.op = .call { callee := .builtin .append, args := #[s, x], argTypes := #[t, t] })
    (e : TypeId) (i : TypeInfo) (z : Value) (bytes : Nat) (ht : P.underlying t = some (.slice e)) (hi : P.info? e = some i) (hz : i.zero = some z)
    (hsize : i.size = size) (hby : i.bytes = bytes) (hzs : z.cells.size = size) (hsz : 0 < size)
    (v : Value) (n : Nat) (xs : List Value) (hs : a.eval s = v) (hown : w.ownsRow base e size v n xs)
    (B : Nat) (A : Option Addr) (m c : Nat) (ys : List Value) (hx : a.eval x = .slice A m c) (hsl : Sl w B size A m ys) (h1 : ∀ u ∈ ys, u.oneCell' = true)
    (h63 : n + m ≤ maxLen) (hbytes : (n + m) * bytes ≤ 140737488355328) (hbase : base ≤ w.heap.size)
    (h : ∀ A' c' w', w'.ownsRow base e size (.slice A' (n + m) c') (n + m) (xs ++ ys) → w.grownBy w' v.ownBlock → n + m ≤ c' → c' ≤ maxLen → wpListIn F n' P ops Q rest (a.put o.dst (.slice A' (n + m) c')) w') : wpListIn F n' P ops Q (o :: rest) a w := by
  refine wpListIn_plain hgd fun K hK => ?_
  obtain ⟨A', c', w', hr, ho', hg, hc1, hc2⟩ := run_append_sl (P := P) t o.type i z bytes ht hi hz hsize hby hzs hsz hown (c := c) hsl h1 h63 hbytes hbase
  unfold Oper.wpIn
  refine ⟨?_, ?_⟩
  · simp [Oper.about, ho, resolve, Target.leads, Sem.run_pure]
  · rw [Oper.semAt_plain F _ _ (by rw [ho]; intro c hc'; cases hc')]
    simp [execOp, ho, resolve, invoke, builtin, hs, hx, hr, Result.andThen]
    exact hK _ _ (h A' c' w' ho' hg hc1 hc2)
theorem wpListIn_put_rm {ops : Array Oper} {rest : List Oper} {o : Oper} {a : Act} {Q : Exit → Act → World → Prop} (hgd : o.guard = none) (m x y : Operand) (t : TypeId) (hop : o.op = Op.mapUpdate t m x y)
    (k e : TypeId) (hk : P.underlying k = some .string) (ht : P.underlying t = some (.map k e)) (b N : Nat) (g : ByteArray → Option Value) (hm : a.eval m = .map (some b)) (h : Rm w P k b N g) (hn : N < maxLen)
    (s : ByteArray) (hs : s.size ≤ maxLen) (v : Value) (hx : a.eval x = .string s) (hy : a.eval y = v)
    (hK : ∀ w', Rm w' P k b (N + 1) (upd g s v) → w.grownBy w' (some b) → wpListIn F n' P ops Q rest (a.put o.dst undef) w') : wpListIn F n' P ops Q (o :: rest) a w := by
  refine wpListIn_plain hgd fun K' hK' => ?_
  obtain ⟨w', hrun, r1, r2⟩ := h.put hk ht hn hs v
  unfold Oper.wpIn
  refine ⟨?_, ?_⟩
  · simp [Oper.about, hop]
  · rw [Oper.semAt_plain F _ _ (by rw [hop]; intro c hc'; cases hc')]
    simp [execOp, hop, hm, hx, hy, hrun, Result.andThen]
    exact hK' _ _ (hK w' r1 r2)
end

/-- A block that holds structs of type e. -/
def isRow (e : TypeId) : Option Obj → Prop
  | some (.cells _ t _) => t = e
  | _ => False
/-- What a round keeps: block bm, the blocks that hold structs of type e, and those that Kf names. -/
structure KeepR (bm : Nat) (e : TypeId) (Kf : Nat → Prop) (A B : World) : Prop where
  size : A.heap.size ≤ B.heap.size
  block : ∀ k, k < A.heap.size → (k = bm ∨ isRow e A.heap[k]? ∨ Kf k) → B.heap[k]? = A.heap[k]?
theorem KeepR.trans {bm : Nat} {e : TypeId} {Kf : Nat → Prop} {A B C : World} (h : KeepR bm e Kf A B) (g : KeepR bm e Kf B C) : KeepR bm e Kf A C :=
  ⟨Nat.le_trans h.size g.size, fun k hk hc => by
    have h1 := h.block k hk hc
    rw [← h1] at hc ⊢
    exact g.block k (Nat.lt_of_lt_of_le hk h.size) hc⟩
/-- What the iterator does between two rounds: only block bm, and behind it blocks that hold structs of type e, turn; new ones may come. -/
structure StepR (bm : Nat) (e : TypeId) (A B : World) : Prop where
  os : B.os = A.os
  tape : B.tape = A.tape
  output : B.output = A.output
  size : A.heap.size ≤ B.heap.size
  block : ∀ k, k < A.heap.size → (k < bm ∨ (k ≠ bm ∧ ¬ isRow e A.heap[k]?)) → B.heap[k]? = A.heap[k]?
theorem StepR.of_grown {bm : Nat} {e : TypeId} {A B : World} {row : Option Nat} (hg : A.grownBy B row) (hr : ∀ g, row = some g → g = bm ∨ (bm < g ∧ isRow e A.heap[g]?)) : StepR bm e A B :=
  ⟨hg.os, hg.tape, hg.output, hg.size, fun k hk h1 => hg.block k hk (fun e' => by
    rcases hr k e'.symm with h | ⟨h, h2⟩
    · rcases h1 with h1 | ⟨h1, _⟩
      · omega
      · exact h1 h
    · rcases h1 with h1 | ⟨_, h1⟩
      · omega
      · exact h1 h2)⟩
theorem StepR.alloc {bm : Nat} {e : TypeId} (A : World) (o : Obj) : StepR bm e A (A.alloc o) := StepR.of_grown (World.grownBy_alloc A o none) (fun g h => by cases h)
/-- What the search reads: the boxes bs and bx of its two variables, the map bn with its rows; all but the boxes lie below hi. -/
structure NxR (W : World) (P : Program) (k m : TypeId) (hi bs bx bn N : Nat) (start : ByteArray) (gn : ByteArray → Option Value) (Ln : ByteArray → List ByteArray) : Prop where
  s : W.heap[bs]? = some (.cells #[.string start] k (0, 0))
  x : W.heap[bx]? = some (.cells #[.map (some bn)] m (0, 0))
  lt : bn < hi
  map : Rm W P k bn N gn
  rows : ∀ s, ∃ A c, (gn s).getD (.slice none 0 0) = .slice A (Ln s).length c ∧ Sl W hi 1 A (Ln s).length (strs (Ln s)) ∧ (Ln s).length ≤ c ∧ c ≤ maxLen
theorem Rm.block {w w' : World} {P : Program} {k : TypeId} {b N : Nat} {g : ByteArray → Option Value} (h : Rm w P k b N g) (hb : w'.heap[b]? = w.heap[b]?) : Rm w' P k b N g := by
  obtain ⟨D, ⟨es, clock, h1, h2⟩, h3⟩ := h
  exact ⟨D, ⟨es, clock, hb.trans h1, h2⟩, h3⟩
theorem NxR.keep {W W' : World} {P : Program} {k m : TypeId} {hi bs bx bn N : Nat} {start : ByteArray} {gn : ByteArray → Option Value} {Ln : ByteArray → List ByteArray} (h : NxR W P k m hi bs bx bn N start gn Ln)
    (hk : ∀ j, (j < hi ∨ j = bs ∨ j = bx) → W'.heap[j]? = W.heap[j]?) : NxR W' P k m hi bs bx bn N start gn Ln :=
  ⟨(hk bs (by simp)).trans h.s, (hk bx (by simp)).trans h.x, h.lt, h.map.block (hk bn (.inl h.lt)), fun s => by
    obtain ⟨A, c, h1, h2, h3⟩ := h.rows s
    exact ⟨A, c, h1, h2.keep fun p hp => World.cell?_of_block (hk p.block (.inl hp)), h3⟩⟩
theorem NxR.step {W W' : World} {P : Program} {k m e : TypeId} {hi bs bx bn N bm : Nat} {start : ByteArray} {gn : ByteArray → Option Value} {Ln : ByteArray → List ByteArray} (h : NxR W P k m hi bs bx bn N start gn Ln)
    (hs : StepR bm e W W') (h1 : hi ≤ bm) (h2 : bs < bm) (h3 : bx < bm) (hz : bm ≤ W.heap.size) : NxR W' P k m hi bs bx bn N start gn Ln :=
  h.keep fun j hj => by
    have : j < bm := by omega
    exact hs.block j (by omega) (.inl this)
theorem NxR.round {W W' : World} {P : Program} {k m e : TypeId} {hi bs bx bn N bm : Nat} {start : ByteArray} {gn : ByteArray → Option Value} {Ln : ByteArray → List ByteArray} (h : NxR W P k m hi bs bx bn N start gn Ln)
    (hs : KeepR bm e (fun j => j < hi ∨ j = bs ∨ j = bx) W W') (h1 : hi ≤ bm) (h2 : bs < bm) (h3 : bx < bm) (hz : bm ≤ W.heap.size) : NxR W' P k m hi bs bx bn N start gn Ln :=
  h.keep fun j hj => hs.block j (by omega) (.inr (.inr hj))
end Go.Proofs.YtiphbincnnppdaaDoor

namespace Go.Proofs.YtiphbincnnppdaaDoor

section
variable {α : Type} {nx : α → List α} {s : α}
/-- whatever has been handed over with k + 1 steps comes from a label with k steps -/
def Par (nx : α → List α) (s : α) (pre : List (α × Nat)) : Prop := ∀ y ∈ pre, ∃ p, y.1 ∈ nx p.1 ∧ y.2 = p.2 + 1 ∧ (p = (s, 0) ∨ p ∈ pre)
def Few (pre : List (α × Nat)) : Prop := ∀ y ∈ pre, y.2 ≤ pre.length
/-- the numbers are least -/
def Lst (nx : α → List α) (s : α) (pre : List (α × Nat)) : Prop := ∀ y ∈ pre, ∃ k, y.2 = k + 1 ∧ Dst nx k s y.1
structure Bfs (nx : α → List α) (s : α) (pre todo : List (α × Nat)) : Prop where
  srch : Srch nx s (pre.map Prod.fst) (todo.map Prod.fst)
  par : Par nx s pre
  few : Few pre
  que : ∀ x ∈ todo, x = (s, 0) ∨ x ∈ pre
  fst : (pre = [] ∧ todo = [(s, 0)]) ∨ ((∀ y ∈ nx s, y ∈ pre.map Prod.fst) ∧ ∀ x ∈ todo, x.2 ≠ 0)
  lst : Lst nx s pre
  mono : todo.Pairwise (fun a b => a.2 ≤ b.2)
  near : ∀ x ∈ todo, ∀ y ∈ todo, y.2 ≤ x.2 + 1
structure BfsL (nx : α → List α) (s : α) (pre todo : List (α × Nat)) (p : α × Nat) (ys : List α) : Prop where
  look : Look nx s (pre.map Prod.fst) (todo.map Prod.fst) p.1 ys
  par : Par nx s pre
  few : Few pre
  que : ∀ x ∈ todo, x = (s, 0) ∨ x ∈ pre
  here : p = (s, 0) ∨ p ∈ pre
  fst : (p.1 = s) ∨ (∀ y ∈ nx s, y ∈ pre.map Prod.fst)
  pos : ∀ x ∈ todo, x.2 ≠ 0
  lst : Lst nx s pre
  mono : todo.Pairwise (fun a b => a.2 ≤ b.2)
  near : ∀ x ∈ todo, p.2 ≤ x.2 ∧ x.2 ≤ p.2 + 1
  lev : ∀ m, m < p.2 → ∀ x, Stp nx m s x → x ∈ pre.map Prod.fst
/-- whatever is reached in fewer steps than those in the queue has been met -/
theorem Bfs.lev {pre todo : List (α × Nat)} {D : Nat} (h : Bfs nx s pre todo) (hD : ∀ x ∈ todo, D ≤ x.2) : ∀ m, m < D → ∀ x, Stp nx m s x → x ∈ pre.map Prod.fst := by
  intro m
  induction m with
  | zero =>
    intro hm x hx
    rcases h.fst with ⟨_, e⟩ | ⟨e, _⟩
    · rw [e] at hD; have := hD (s, 0) (by simp); simp at this; omega
    · exact e x hx
  | succ m ih =>
    rintro hm x ⟨c, hc, hx⟩
    have hcm := ih (by omega) c hc
    rcases h.srch.done c (.inr hcm) with e | e
    · obtain ⟨q, hq, rfl⟩ := List.mem_map.1 e
      have hq2 := hD q hq
      rcases h.que q hq with e2 | e2
      · rw [e2] at hq2; simp at hq2; omega
      · obtain ⟨k, e3, e4⟩ := h.lst q e2
        exact absurd hc (e4.2 m (by omega))
    · exact e x hx
theorem Bfs.start (nx : α → List α) (s : α) : Bfs nx s [] [(s, 0)] :=
  ⟨Srch.start nx s, (fun y h => by cases h), (fun y h => by cases h), fun x h => .inl (List.mem_singleton.1 h), .inl ⟨rfl, rfl⟩, (fun y h => by cases h), List.pairwise_singleton _ _, fun x hx y hy => by rw [List.mem_singleton.1 hx, List.mem_singleton.1 hy]; simp⟩
theorem Bfs.look {pre todo : List (α × Nat)} {p : α × Nat} (h : Bfs nx s pre (p :: todo)) : BfsL nx s pre todo p (nx p.1) := by
  have hl := Srch.look (todo := todo.map Prod.fst) (p := p.1) h.srch
  have hmo := List.pairwise_cons.1 h.mono
  refine ⟨hl, h.par, h.few, fun x hx => h.que x (by simp [hx]), h.que p (by simp), ?_, ?_, h.lst, hmo.2, fun x hx => ⟨hmo.1 x hx, h.near p (by simp) x (by simp [hx])⟩, h.lev fun x hx => by
    rcases List.mem_cons.1 hx with rfl | hx
    · exact Nat.le_refl _
    · exact hmo.1 x hx⟩
  · rcases h.fst with ⟨_, e⟩ | ⟨e, _⟩
    · left; simp at e; rw [e.1]
    · exact .inr e
  · rcases h.fst with ⟨_, e⟩ | ⟨_, e⟩
    · simp at e; rw [e.2]; intro x hx; cases hx
    · exact fun x hx => e x (by simp [hx])
theorem Bfs.pass {pre todo : List (α × Nat)} {p : α × Nat} (h : Bfs nx s pre (p :: todo)) (h1 : p.1 = s) (h2 : p.2 ≠ 0) : Bfs nx s pre todo := by
  rcases h.fst with ⟨_, e⟩ | ⟨e, e2⟩
  · simp at e; rw [e.1] at h2; exact absurd rfl h2
  · exact ⟨Srch.pass (p := p.1) h.srch (by rw [h1]; exact e), h.par, h.few, fun x hx => h.que x (by simp [hx]), .inr ⟨e, fun x hx => e2 x (by simp [hx])⟩, h.lst, (List.pairwise_cons.1 h.mono).2, fun x hx y hy => h.near x (by simp [hx]) y (by simp [hy])⟩
theorem BfsL.skip {pre todo : List (α × Nat)} {p : α × Nat} {y : α} {ys : List α} (h : BfsL nx s pre todo p (y :: ys)) (hy : y ∈ pre.map Prod.fst) : BfsL nx s pre todo p ys :=
  ⟨h.look.skip hy, h.par, h.few, h.que, h.here, h.fst, h.pos, h.lst, h.mono, h.near, h.lev⟩
theorem BfsL.take {pre todo : List (α × Nat)} {p : α × Nat} {y : α} {ys : List α} (h : BfsL nx s pre todo p (y :: ys)) (hy : y ∉ pre.map Prod.fst) : BfsL nx s (pre ++ [(y, p.2 + 1)]) (todo ++ [(y, p.2 + 1)]) p ys := by
  have hm : ∀ l : List (α × Nat), (l ++ [(y, p.2 + 1)]).map Prod.fst = l.map Prod.fst ++ [y] := fun l => by simp
  refine ⟨?_, ?_, ?_, ?_, ?_, ?_, ?_, ?_, ?_, ?_, ?_⟩
  · rw [hm, hm]; exact h.look.take hy
  · intro z hz
    rcases List.mem_append.1 hz with hz | hz
    · obtain ⟨q, h1, h2, h3⟩ := h.par z hz
      refine ⟨q, h1, h2, ?_⟩
      rcases h3 with h3 | h3
      · exact .inl h3
      · exact .inr (List.mem_append_left _ h3)
    · rw [List.mem_singleton.1 hz]
      refine ⟨p, h.look.sub y (by simp), rfl, ?_⟩
      rcases h.here with h3 | h3
      · exact .inl h3
      · exact .inr (List.mem_append_left _ h3)
  · intro z hz
    rw [List.length_append]
    rcases List.mem_append.1 hz with hz | hz
    · have := h.few z hz; omega
    · rw [List.mem_singleton.1 hz]
      rcases h.here with h3 | h3
      · rw [h3]; simp
      · have := h.few p h3; simp; omega
  · intro z hz
    rcases List.mem_append.1 hz with hz | hz
    · rcases h.que z hz with h3 | h3
      · exact .inl h3
      · exact .inr (List.mem_append_left _ h3)
    · exact .inr (List.mem_append_right _ hz)
  · rcases h.here with h3 | h3
    · exact .inl h3
    · exact .inr (List.mem_append_left _ h3)
  · rcases h.fst with h3 | h3
    · exact .inl h3
    · exact .inr fun z hz => by rw [hm]; exact List.mem_append_left _ (h3 z hz)
  · intro z hz
    rcases List.mem_append.1 hz with hz | hz
    · exact h.pos z hz
    · rw [List.mem_singleton.1 hz]; simp
  · intro z hz
    rcases List.mem_append.1 hz with hz | hz
    · exact h.lst z hz
    · rw [List.mem_singleton.1 hz]
      refine ⟨p.2, rfl, ?_, fun m hm hs => hy (h.lev m hm y hs)⟩
      have hyp := h.look.sub y (by simp)
      rcases h.here with h3 | h3
      · rw [h3] at hyp ⊢; exact hyp
      · obtain ⟨k, e1, e2⟩ := h.lst p h3
        rw [e1]; exact ⟨p.1, e2.1, hyp⟩
  · refine List.pairwise_append.2 ⟨h.mono, List.pairwise_singleton _ _, fun a ha b hb => ?_⟩
    rw [List.mem_singleton.1 hb]; exact (h.near a ha).2
  · intro z hz
    rcases List.mem_append.1 hz with hz | hz
    · exact h.near z hz
    · rw [List.mem_singleton.1 hz]; simp
  · intro m hmm x hx
    rw [hm]; exact List.mem_append_left _ (h.lev m hmm x hx)
theorem BfsL.close {pre todo : List (α × Nat)} {p : α × Nat} (h : BfsL nx s pre todo p []) : Bfs nx s pre todo := by
  refine ⟨h.look.close, h.par, h.few, h.que, .inr ⟨?_, h.pos⟩, h.lst, h.mono, fun x hx y hy => by have := h.near x hx; have := h.near y hy; omega⟩
  rcases h.fst with h3 | h3
  · intro y hy
    exact (h.look.part y (by rw [h3]; exact hy)).resolve_right (by simp)
  · exact h3
/-- what is known whenever the search stops -/
structure Got (nx : α → List α) (s : α) (pre : List (α × Nat)) : Prop where
  nodup : (pre.map Prod.fst).Nodup
  sound : ∀ x ∈ pre.map Prod.fst, Rch nx s x
  par : Par nx s pre
  few : Few pre
  lst : Lst nx s pre
theorem Bfs.got {pre todo : List (α × Nat)} (h : Bfs nx s pre todo) : Got nx s pre := ⟨h.srch.nodup, h.srch.sound, h.par, h.few, h.lst⟩
theorem BfsL.got {pre todo : List (α × Nat)} {p : α × Nat} {ys : List α} (h : BfsL nx s pre todo p ys) : Got nx s pre := ⟨h.look.nodup, h.look.sound, h.par, h.few, h.lst⟩
theorem nodup_len : ∀ (l u : List α), l.Nodup → (∀ x ∈ l, x ∈ u) → l.length ≤ u.length
  | [], _, _, _ => Nat.zero_le _
  | x :: l, u, hn, hs => by
    obtain ⟨a, b, e⟩ := List.append_of_mem (hs x (by simp))
    subst e
    rw [List.nodup_cons] at hn
    have := nodup_len l (a ++ b) hn.2 (fun y hy => by
      have h := hs y (by simp [hy])
      rcases List.mem_append.1 h with h | h
      · exact List.mem_append_left _ h
      · rcases List.mem_cons.1 h with h | h
        · subst h; exact absurd hy hn.1
        · exact List.mem_append_right _ h)
    simp only [List.length_append, List.length_cons] at this ⊢
    omega
theorem Rch.mem {u : List α} (hu : ∀ x, ∀ y ∈ nx x, y ∈ u) {a b : α} (h : Rch nx a b) : b ∈ u := by
  obtain ⟨n, hn⟩ := h; exact hn.mem hu
theorem Got.len {pre : List (α × Nat)} {u : List α} (h : Got nx s pre) (hu : ∀ x, ∀ y ∈ nx x, y ∈ u) : pre.length ≤ u.length := by
  have := nodup_len _ u h.nodup (fun x hx => (h.sound x hx).mem hu)
  rwa [List.length_map] at this
theorem Bfs.end_ {pre : List (α × Nat)} (h : Bfs nx s pre []) (x : α) : x ∈ pre.map Prod.fst ↔ Rch nx s x := h.srch.end_ x
end
end Go.Proofs.YtiphbincnnppdaaDoor

namespace Go.Proofs.YtiphbincnnppdaaDoor
open Go.RowKit

section
variable {F : Fence} {n : Nat} {P : Program} {b : Frame} {a : Act} {k : List Item} {cs : List Frame} {w : World} {Q : Exit → Act → World → Prop}
theorem stepR_scope {c : Code} : step P (lone (b.atR a (.code (.scope c) :: k)) cs w) = .next (lone (b.atR a (.code c :: .inScope c :: k)) cs w) :=
  step_lone_go (by simp [stepG, stepG.exec, Frame.atR])
theorem stepR_inScope {c : Code} : step P (lone (b.atR a (.inScope c :: k)) cs w) = .next (lone (b.atR a k) cs w) :=
  step_lone_go (by simp [stepG, stepG.exec, Frame.atR])
theorem wpIn_scope_straight {c : Code} (h : c.wpIn F n P (Exit.noGoto Q) a w) : (Code.scope c).wpIn F n P Q a w := by
  intro b k cs hro hb hr
  have h0 : (lone (b.atR a (.code (.scope c) :: k)) cs w).fenced P F := fenced_calm hb hr rfl
  obtain ⟨e, a₁, w₁, hq, harr⟩ := h b (.inScope c :: k) cs hro hb hr
  cases e with
  | normal => exact ⟨.normal, a₁, w₁, hq, .head h0 stepR_scope (StepsIn.trans harr (.one (fenced_calm hb hr rfl) stepR_inScope))⟩
  | exit id =>
    have hx : exitTo id (.inScope c :: k) = exitTo id k := by simp [exitTo]
    exact ⟨.exit id, a₁, w₁, hq, fun k' hk => .head h0 stepR_scope (harr.1 k' (by rw [hx]; exact hk)),
      fun hr' hk => let ⟨k₁, h1, h2⟩ := harr.2 hr' (by rw [hx]; exact hk); ⟨k₁, h1, .head h0 stepR_scope h2⟩⟩
  | goto l => exact hq.elim
  | ret => exact ⟨_, a₁, w₁, hq, .of_steps (.one h0 stepR_scope) harr⟩
  | panic ch => exact ⟨_, a₁, w₁, hq, .of_steps (.one h0 stepR_scope) harr⟩
  | outgrown => exact ⟨_, a₁, w₁, hq, .of_steps (.one h0 stepR_scope) harr⟩
end
end Go.Proofs.YtiphbincnnppdaaDoor

namespace Go.Proofs.YtiphbincnnppdaaDoor
open Go.RowKit Go.Maps



def idxG (ts : List Tg) : ByteArray → Option Value := fun s => (findT ts s).map tgV
theorem idxG_skip {ts : List Tg} {t : Tg} (h : isT ts t.lab = true) : idxG (ts ++ [t]) = idxG ts := by
  funext s
  unfold idxG
  rw [findT_snoc]
  cases hf : findT ts s with
  | some x => rfl
  | none =>
    by_cases e : t.lab = s
    · subst e; unfold isT at h; rw [hf] at h; cases h
    · simp [e]
theorem idxG_put {ts : List Tg} {t : Tg} (h : isT ts t.lab = false) : idxG (ts ++ [t]) = upd (idxG ts) t.lab (tgV t) := by
  funext s
  unfold idxG upd
  rw [findT_snoc]
  by_cases e : s = t.lab
  · subst e
    unfold isT at h
    cases hf : findT ts t.lab with
    | some x => rw [hf] at h; cases h
    | none => simp
  · cases hf : findT ts s with
    | some x => simp [e, hf]
    | none => simp [e, hf, Ne.symm e]
theorem idxG_some (ts : List Tg) (s : ByteArray) : (idxG ts s).isSome = isT ts s := by
  unfold idxG isT; simp
theorem Sl.tg {w : World} {B n k : Nat} {A : Option Addr} {ts : List Tg} (h : Sl w B 4 A n (flat tgC ts)) (hk : k < n) :
    ∃ b off t, A = some ⟨b, off, none⟩ ∧ b < B ∧ ts[k]? = some t ∧ w.cell? ⟨b, off + k * 4, none⟩ = some (.string t.lab) ∧ w.cell? ⟨b, off + k * 4 + 1, none⟩ = some (.int .i64 t.kind) ∧ w.cell? ⟨b, off + k * 4 + 2, none⟩ = some (.slice t.dA t.dn t.dc) ∧ w.cell? ⟨b, off + k * 4 + 3, none⟩ = some (.slice t.vA t.vn t.vc) := by
  obtain ⟨b, off, t, e, hb, ht, hc⟩ := h.at_ tgC_len (by omega) hk
  exact ⟨b, off, t, e, hb, ht, hc 0 _ rfl, hc 1 _ rfl, hc 2 _ rfl, hc 3 _ rfl⟩
def zeroT : Value := .agg #[.string ⟨#[]⟩, .int .i64 0, .slice none 0 0, .slice none 0 0]

set_option maxRecDepth 100000 in
set_option maxHeartbeats 2000000 in
theorem index_any (A : Option Addr) (n c B : Nat) (ts : List Tg) (w : World) (h0 : Sl w B 4 A n (flat tgC ts)) (hB : B ≤ w.heap.size) (hn : n ≤ 1000000) (hls : ∀ t ∈ ts, t.lab.size ≤ maxLen) :
    Calls Tryd.prog 55 #[.slice A n c] w fun e w' => e = .returned (.map (some w.heap.size)) ∧ Rm w' Tryd.prog 9 w.heap.size n (idxG ts) ∧ Below w.heap.size w w' := by
  have HL := Lib.hid (h0.len tgC_len (by omega))
  have H0 := Lib.hid h0; have HLS := Lib.hid hls
  clear h0 hls
  have hmm := @run_makeMap Tryd.prog
  have HM0 : Hid (Rm (w.alloc (.map #[] 0)) Tryd.prog 9 w.heap.size 0 (idxG (ts.take 0))) := Rm.made w Tryd.prog 9
  have HB0 : Hid (Below w.heap.size w (w.alloc (.map #[] 0))) := (Below.refl _ w).alloc (Nat.le_refl _) _
  go_enter Tryd.func55, Tryd.ntmps55
  go_wp2
  go_loopw [11] (fun i wr => ∃ k : Nat, k ≤ n ∧ i = .int .i64 k ∧ Hid (Rm wr Tryd.prog 9 w.heap.size k (idxG (ts.take k))) ∧ Hid (Below w.heap.size w wr) ∧ w.heap.size < wr.heap.size) (fun i _ => n - (intOf i).toNat)
  case atStart => exact ⟨0, Nat.zero_le _, rfl, HM0.out, HB0.out, by simp⟩
  case round =>
    obtain ⟨k, hk, rfl, hM, hBel, hwz⟩ := hrel
    by_cases hlt : k < n
    · obtain ⟨b, off, t, rfl, hbB, ht, y0, y1, y2, y3⟩ := (H0.out.below hBel.out hB).tg hlt
      have HTK := Lib.hid (take_snoc ht)
      have HTS := Lib.hid (HLS.out t (List.mem_of_getElem? ht))
      have hlz : (k : Int) < (n : Int) := by omega
      obtain ⟨lab, kind, dA, dn, dc, deps, vA, vn, vc, vis⟩ := t
      simp only at y0 y1 y2 y3 HTS
      have hlk := (hM.out.alloc (.cells #[.string lab, .int .i64 kind, .slice dA dn dc, .slice vA vn vc] 35)).look_ok Tryd.underlying9 Tryd.underlying105 (Tryd.zeroValue35 _) HTS.out
      clear ht
      rw [idxG_some] at hlk
      have HK0 := Lib.hid (hM.out.alloc (.cells #[.string lab, .int .i64 kind, .slice dA dn dc, .slice vA vn vc] 35))
      have hk0 : Bk (wr.alloc (.cells #[.string lab, .int .i64 kind, .slice dA dn dc, .slice vA vn vc] 35)) wr.heap.size 35 #[.string lab, .int .i64 kind, .slice dA dn dc, .slice vA vn vc] := Bk.new wr _ _
      cases hs : isT (ts.take k) lab with
      | true =>
        obtain ⟨x, hx⟩ : ∃ x, findT (ts.take k) lab = some x := Option.isSome_iff_exists.1 hs
        have hgx : idxG (ts.take k) lab = some (tgV x) := by unfold idxG; rw [hx]; rfl
        have HST : Hid (idxG (ts.take (k + 1)) = idxG (ts.take k)) := by show _ = _; rw [HTK.out]; exact idxG_skip hs
        rw [hgx, hs] at hlk
        obtain ⟨xlab, xkind, xdA, xdn, xdc, xdeps, xvA, xvn, xvc, xvis⟩ := x
        simp only [Option.getD_some, tgV] at hlk
        clear hx hgx hs hk0
        have HM2 := Lib.hid (HK0.out.alloc (.cells #[.string xlab, .int .i64 xkind, .slice xdA xdn xdc, .slice xvA xvn xvc] 35))
        have HB2 : Hid (Below w.heap.size w ((wr.alloc (.cells #[.string lab, .int .i64 kind, .slice dA dn dc, .slice vA vn vc] 35)).alloc (.cells #[.string xlab, .int .i64 xkind, .slice xdA xdn xdc, .slice xvA xvn xvc] 35))) := (hBel.out.alloc (by omega) _).alloc (by simp; omega) _
        go_wp2
        go_roundw
        case rel => exact ⟨k + 1, by omega, by go_num, by show Rm _ _ _ _ _ _; rw [HST.out]; exact HM2.out.more (by omega), HB2.out, by simp; omega⟩
        case measure => simp [intOf]; omega
      | false =>
        have hgx : idxG (ts.take k) lab = none := by
          unfold idxG; unfold isT at hs
          cases hf : findT (ts.take k) lab with
          | none => rfl
          | some x => rw [hf] at hs; cases hs
        have HST : Hid (idxG (ts.take (k + 1)) = upd (idxG (ts.take k)) lab (.agg #[.string lab, .int .i64 kind, .slice dA dn dc, .slice vA vn vc])) := by show _ = _; rw [HTK.out]; exact idxG_put hs
        rw [hgx, hs] at hlk
        simp only [Option.getD_none] at hlk
        clear hgx hs
        have HM2 := Lib.hid (HK0.out.alloc (.cells #[.string ⟨#[]⟩, .int .i64 0, .slice none 0 0, .slice none 0 0] 35))
        have hk2 := hk0.alloc (.cells #[.string ⟨#[]⟩, .int .i64 0, .slice none 0 0, .slice none 0 0] 35)
        have HB2 : Hid (Below w.heap.size w ((wr.alloc (.cells #[.string lab, .int .i64 kind, .slice dA dn dc, .slice vA vn vc] 35)).alloc (.cells #[.string ⟨#[]⟩, .int .i64 0, .slice none 0 0, .slice none 0 0] 35))) := (hBel.out.alloc (by omega) _).alloc (by simp; omega) _
        have u0 := hk2.cell 0; have u1 := hk2.cell 1; have u2 := hk2.cell 2; have u3 := hk2.cell 3
        simp at u0 u1 u2 u3
        clear hk0 hk2
        go_wp2_with (at_mapUpdate; refine halt_ ?_)
        refine unhalt ?_
        refine wpList_put_rm rfl _ _ _ 105 rfl 9 35 Tryd.underlying9 Tryd.underlying105 w.heap.size k _ rfl HM2.out (by unfold maxLen; omega) lab HTS.out _ rfl rfl ?_
        intro w3 hM3 hg3
        have HM3 := Lib.hid hM3
        have HB3 : Hid (Below w.heap.size w w3) := HB2.out.grown hg3 (by simp; omega) (fun k e => by cases e; omega)
        have hz3 : w.heap.size < w3.heap.size := by have := hg3.size; simp at this; omega
        clear hM3 hg3
        go_wp2
        go_roundw
        case rel => exact ⟨k + 1, by omega, by go_num, by show Rm _ _ _ _ _ _; rw [HST.out]; exact HM3.out, HB3.out, hz3⟩
        case measure => simp [intOf]; omega
    · have hlz : ¬ (k : Int) < (n : Int) := by omega
      have hM2 := hM.out
      rw [List.take_of_length_le (by rw [HL.out]; omega)] at hM2
      have HM2 := Lib.hid (hM2.more hk)
      clear hM2 hM
      go_wp2
      go_ret
      exact ⟨rfl, HM2.out, hBel.out⟩
end Go.Proofs.YtiphbincnnppdaaDoor

namespace Go.Proofs.YtiphbincnnppdaaDoor
open Go.RowKit Go.Maps
attribute [local go_sem] Oper.semAt_some

/-- the met labels -/
def metG (pre : List (ByteArray × Nat)) : ByteArray → Option Value := fun s => if pre.any (fun x => decide (x.1 = s)) then some (.bool true) else none
theorem metG_any (pre : List (ByteArray × Nat)) (s : ByteArray) : pre.any (fun x => decide (x.1 = s)) = true ↔ s ∈ pre.map Prod.fst := by
  simp [List.any_eq_true, List.mem_map]
theorem metG_in {pre : List (ByteArray × Nat)} {s : ByteArray} (h : s ∈ pre.map Prod.fst) : metG pre s = some (.bool true) := by
  unfold metG; rw [if_pos ((metG_any pre s).2 h)]
theorem metG_out {pre : List (ByteArray × Nat)} {s : ByteArray} (h : s ∉ pre.map Prod.fst) : metG pre s = none := by
  unfold metG; rw [if_neg (fun e => h ((metG_any pre s).1 e))]
theorem metG_put {pre : List (ByteArray × Nat)} {s : ByteArray} (k : Nat) : metG (pre ++ [(s, k)]) = upd (metG pre) s (.bool true) := by
  funext t
  unfold metG upd
  by_cases e : t = s
  · subst e; simp
  · have h : ((pre ++ [(s, k)]).any fun x => decide (x.1 = t)) = pre.any fun x => decide (x.1 = t) := by
      rw [List.any_append]; simp [Ne.symm e]
    rw [h, if_neg e]
theorem str_ne {a b : ByteArray} (h : a ≠ b) : (a.toList == b.toList) = false := by
  rw [beq_eq_false_iff_ne]
  intro e
  rw [ByteArray.toList_eq, ByteArray.toList_eq] at e
  exact h (data_inj e)
theorem str_eq (a : ByteArray) : (a.toList == a.toList) = true := by simp
/-- the queue's row does not lie in block b -/
def NotIn (b : Nat) (A : Option Addr) (c : Nat) : Prop := c ≠ 0 → ∀ g off, A = some ⟨g, off, none⟩ → g ≠ b
theorem plC_get (x : ByteArray) (k : Int) (j : Nat) (u : Value) (w : World) (t : TypeId) (h : [Value.string x, .int .i64 k][j]? = some u) : (w.alloc (.cells #[.string x, .int .i64 k] t)).cell? ⟨w.heap.size, 0 + j, none⟩ = some u := by
  have hk : Bk (w.alloc (.cells #[.string x, .int .i64 k] t)) w.heap.size t #[.string x, .int .i64 k] := Bk.new w _ _
  rw [hk.cell]
  match j, h with
  | 0, h => simpa using h
  | 1, h => simpa using h
def plC (x : ByteArray × Nat) : List Value := [.string x.1, .int .i64 x.2]

theorem infoPl : (Tryd.prog.info? 149).map (fun i => (i.zero, i.size, i.bytes)) = some (some (.agg #[.string ⟨#[]⟩, .int .i64 0]), 2, 24) := by kernel_rfl
theorem Que.slice1 {P : Program} {w : World} {base size n c g off : Nat} {e t : TypeId} {xs : List Value} (i : TypeInfo) (ht : P.underlying t = some (.slice e)) (hi : P.info? e = some i) (hsz : i.size = size) (h : Que w base e size (some ⟨g, off, none⟩) (n + 1) c xs) :
    ∃ A1, (∀ w' : World, (Instr.sliceAt t (.slice (some ⟨g, off, none⟩) (n + 1) c) (some (.int .i64 1)) none none).run P w' = .ok (.slice A1 n (c - 1)) w') ∧ Que w base e size A1 n (c - 1) (xs.drop size) := by
  have hle := h.le
  refine ⟨if c = 1 then some ⟨g, off, none⟩ else some ⟨g, off + size, none⟩, fun w' => ?_, ?_⟩
  · by_cases e : c = 1
    · simp [Instr.sliceAt, Instr.slice, run_underlying ht, Instr.sliceBounds, Instr.sliceBound, asIntOf, sizeOf, typeInfo, hi, hsz, e]; omega
    · simp [Instr.sliceAt, Instr.slice, run_underlying ht, Instr.sliceBounds, Instr.sliceBound, asIntOf, sizeOf, typeInfo, hi, hsz, e, Addr.add_lit]; omega
  · by_cases e : c = 1
    · rw [if_pos e]
      have h0 := h.tail.1
      exact ⟨h0, .inl ⟨by omega, by omega⟩⟩
    · rw [if_neg e]; exact h.tail

set_option maxRecDepth 100000 in
set_option maxHeartbeats 8000000 in
theorem reached_st (n : Nat) (hn : 1 ≤ n) (hi bs bx bn N hz : Nat) (start : ByteArray) (gn : ByteArray → Option Value) (Ln : ByteArray → List ByteArray) (U : List ByteArray) (w : World)
    (h0 : NxR w Tryd.prog 9 108 hi bs bx bn N start gn Ln) (hhi : hi ≤ w.heap.size) (hbs : bs < w.heap.size) (hbx : bx < w.heap.size) (hwz : w.heap.size ≤ hz)
    (hU : ∀ x, ∀ y ∈ Ln x, y ∈ U) (hUl : U.length ≤ 1000) (hUs : ∀ y ∈ U, y.size ≤ maxLen) (hss : start.size ≤ maxLen) :
    SeqT Fence.wide n Tryd.prog 88 #[.pointer (some ⟨bs, 0, none⟩), .pointer (some ⟨bx, 0, none⟩)] (fun x : ByteArray × Nat => #[.string x.1, .int .i64 x.2])
      (KeepR hz 149 (fun j => j < hi ∨ j = bs ∨ j = bx)) (StepR hz 149) (Got Ln start) (fun xs => Got Ln start xs ∧ ∀ x, x ∈ xs.map Prod.fst ↔ Rch Ln start x) (Got Ln start) hz w := fun l J Jx W hW hWz hJ hY hJ0 => by
  subst hWz
  have HN : Hid (NxR W Tryd.prog 9 108 hi bs bx bn N start gn Ln) := h0.keep fun j hj => hW.block j (by omega)
  have HN1 := Lib.hid (HN.out.step (StepR.alloc (bm := W.heap.size) (e := 149) W (.map #[] 0)) (by omega) (by omega) (by omega) (Nat.le_refl _))
  have s0 := cell_of_one HN1.out.s
  have HJ := Lib.hid hJ; have HY := Lib.hid hY; have HJ0 := Lib.hid hJ0; have HUU := Lib.hid hU; have HUS := Lib.hid hUs
  clear hW h0 hJ hY hJ0 hU hUs
  have hmm := @run_makeMap Tryd.prog
  obtain ⟨i0, hi0, hz0, hz1, hz2⟩ := info_parts infoPl
  have Hi := Lib.hid hi0; have Hz0 := Lib.hid hz0; have Hz1 := Lib.hid hz1; have Hz2 := Lib.hid hz2
  clear hi0 hz0 hz1 hz2
  refine callsIn_of_wp Tryd.func88 rfl trivial ?_ rfl
  simp only [Tryd.ntmps88, List.size_toArray, List.length_cons, List.length_nil, Nat.reduceAdd, Nat.reduceSub, Array.replicate_succ, Array.replicate_zero, List.push_toArray, List.append_toArray, List.nil_append, List.cons_append]
  refine wpIn_scope_straight ?_
  gi_wp2
  refine wpIn_label ?_
  gi_wp2
  have HQ0 : Hid (Que ((W.alloc (.map #[] 0)).alloc (.cells #[.string start, .int .i64 0] 149)) (W.heap.size + 1) 149 2 (some ⟨W.heap.size + 1, 0, none⟩) 1 1 (flat plC [(start, 0)])) :=
    ⟨rfl, .inr ⟨W.heap.size + 1, 0, #[.string start, .int .i64 0], rfl, Nat.le_refl _, by have := World.alloc_heap_new (W.alloc (.map #[] 0)) (.cells #[.string start, .int .i64 0] 149); rwa [World.size_alloc] at this, Nat.le_refl _, by unfold maxLen; omega, rfl, rfl⟩⟩
  have HM0 : Hid (Rm ((W.alloc (.map #[] 0)).alloc (.cells #[.string start, .int .i64 0] 149)) Tryd.prog 9 W.heap.size 0 (metG [])) := (Rm.made W Tryd.prog 9).alloc _
  have HN2 := Lib.hid (HN1.out.step (StepR.alloc (bm := W.heap.size) (e := 149) (W.alloc (.map #[] 0)) (.cells #[.string start, .int .i64 0] 149)) (by omega) (by omega) (by omega) (by simp))
  have HJ2 := Lib.hid (HJ.out [] _ _ (HJ.out [] _ _ HJ0.out (StepR.alloc W (.map #[] 0))) (StepR.alloc _ (.cells #[.string start, .int .i64 0] 149)))
  gi_loopg [5] (2 * (U.length + 1) + 1) (fun m q wr => ∃ (pre todo : List (ByteArray × Nat)) (A : Option Addr) (nq c : Nat), m = 2 * (U.length + 1 - pre.length) + nq ∧ todo.length = nq ∧ q = .slice A nq c ∧ Hid (Que wr (W.heap.size + 1) 149 2 A nq c (flat plC todo)) ∧ Hid (Rm wr Tryd.prog 9 W.heap.size pre.length (metG pre)) ∧
    Hid (NxR wr Tryd.prog 9 108 hi bs bx bn N start gn Ln) ∧ Hid (Bfs Ln start pre todo) ∧ Hid (J pre wr) ∧ W.heap.size + 1 ≤ wr.heap.size ∧ 2 * (U.length + 1 - pre.length) + nq ≤ 2 * (U.length + 1) + 1)
  case atStart => exact ⟨[], [(start, 0)], _, 1, 1, rfl, rfl, rfl, HQ0.out, HM0.out, HN2.out, Bfs.start Ln start, HJ2.out, by simp, by simp⟩
  case round =>
    obtain ⟨pre, todo, A, nq, c, rfl, hnq, rfl, hQ, hM, hN, hB, hj, hwz1, hmost⟩ := hrel
    cases todo with
    | nil =>
      obtain rfl : nq = 0 := by simpa using hnq.symm
      have HG := Lib.hid hB.out.got
      have HE := Lib.hid hB.out.end_
      clear hB
      gi_wp2
      simp only [Exit.noGoto]
      go_end0
      exact ⟨⟨_, rfl⟩, .inl ⟨pre, ⟨HG.out, HE.out⟩, hj.out⟩⟩
    | cons p todo =>
      obtain ⟨lab, st⟩ := p
      have HGL := hB.out.got.len HUU.out
      have hst : st ≤ U.length := by
        rcases hB.out.que (lab, st) (by simp) with e | e
        · simp at e; omega
        · have := hB.out.few _ e; simp at this; omega
      have hq1 : nq = todo.length + 1 := by simpa using hnq.symm
      subst hq1
      obtain ⟨qb, qo, y, rfl, hqb, hy, hyc⟩ := hQ.out.sl.at_ (enc := plC) (fun _ => rfl) (by omega) (Nat.zero_lt_succ _)
      have hy' : y = (lab, st) := by simpa using hy.symm
      subst hy'
      have q0 := hyc 0 _ rfl; have q1 := hyc 1 _ rfl
      simp only [Nat.zero_mul, Nat.add_zero] at q0 q1
      obtain ⟨A1, hsl1, hQ1⟩ := hQ.out.slice1 i0 Tryd.underlying150 Hi.out Hz1.out
      have HQ1 : Hid (Que wr (W.heap.size + 1) 149 2 A1 todo.length (c - 1) (flat plC todo)) := hQ1
      clear hy hyc hnq hQ1
      have HNp := Lib.hid (hN.out.step (StepR.alloc (bm := W.heap.size) (e := 149) wr (.cells #[.string lab, .int .i64 st] 149)) (by omega) (by omega) (by omega) (by omega))
      have z0 := cell_of_one HNp.out.s
      have z1 := cell_of_one HNp.out.x
      have hkp : Bk (wr.alloc (.cells #[.string lab, .int .i64 st] 149)) wr.heap.size 149 #[.string lab, .int .i64 st] := Bk.new wr _ _
      have HQp : Hid (Que (wr.alloc (.cells #[.string lab, .int .i64 st] 149)) (W.heap.size + 1) 149 2 A1 todo.length (c - 1) (flat plC todo)) := HQ1.out.keep fun g cur hg => Below.heap_alloc _ _ _ (Array.getElem?_eq_some_iff.1 hg).1
      have HMp := Lib.hid (hM.out.alloc (.cells #[.string lab, .int .i64 st] 149))
      have HJp := Lib.hid (HJ.out pre _ _ hj.out (StepR.alloc wr (.cells #[.string lab, .int .i64 st] 149)))
      have p0 := hkp.cell 0; have p1 := hkp.cell 1
      simp at p0 p1
      have HQ1' := HQ1
      clear hQ hM hj HQ1 hN
      by_cases hpass : st ≠ 0 ∧ lab = start
      · obtain ⟨hp1, rfl⟩ := hpass
        have hpi : (0 : Int) < (st : Int) := by omega
        have HB1 := Lib.hid (hB.out.pass rfl hp1)
        clear hB
        gi_wp2
        gi_roundg (2 * (U.length + 1 - pre.length) + todo.length)
        case rel => exact ⟨pre, todo, A1, todo.length, c - 1, rfl, rfl, rfl, HQp.out, HMp.out, HNp.out, HB1.out, HJp.out, by simp; omega, by omega⟩
        case measure => omega
      · obtain ⟨An, cn, hgn, hSn, hcn, hcn'⟩ := HNp.out.rows lab
        have hls : lab.size ≤ maxLen := by
          rcases hB.out.que (lab, st) (by simp) with e | e
          · simp at e; rw [e.1]; exact hss
          · exact HUS.out lab ((hB.out.got.sound lab (List.mem_map_of_mem (f := Prod.fst) e)).mem HUU.out)
        have hlk := HNp.out.map.look Tryd.underlying9 Tryd.underlying108 (Tryd.zeroValue27 _) hls
        have hlk2 : (Instr.lookup 108 (.map (some bn)) (.string lab) false).run Tryd.prog (wr.alloc (.cells #[.string lab, .int .i64 st] 149)) = .ok (.slice An (Ln lab).length cn) (wr.alloc (.cells #[.string lab, .int .i64 st] 149)) := by rw [← hgn]; exact hlk
        have HGN := Lib.hid hgn
        have HBL := Lib.hid hB.out.look
        have HNI : Hid (NotIn wr.heap.size A1 (c - 1)) := fun h0 g off e => by
          obtain ⟨_, ⟨_, h1⟩ | ⟨g', off', cur, h1, h2, h3, _⟩⟩ := HQ1'.out
          · exact absurd h1 h0
          · rw [e] at h1; cases h1
            have := (Array.getElem?_eq_some_iff.1 h3).1; omega
        have hways : (st = 0) ∨ (st ≠ 0 ∧ lab ≠ start) := by
          by_cases e : st = 0
          · exact .inl e
          · exact .inr ⟨e, fun e2 => hpass ⟨e, e2⟩⟩
        have HKP := Lib.hid hkp
        clear hlk hgn hSn hB hpass HQ1' hkp
        have hUle : U.length + 1 - pre.length = U.length - pre.length + 1 := by omega
        have hLl : (Ln lab).length ≤ 9223372036854775807 := by have := Nat.le_trans hcn hcn'; unfold maxLen at this; omega
        rcases hways with hw0 | ⟨hw0, hw1⟩
        case' inl =>
          have hpi : ¬ (0 : Int) < (st : Int) := by omega
          clear hw0
          gi_wp2
        case' inr =>
          have hpi : (0 : Int) < (st : Int) := by omega
          have hse := str_ne hw1
          gi_wp2
        all_goals
          clear hlk2 q0 q1 z0 z1 hsl1
          gi_loopg [5, 35] ((Ln lab).length) (fun m q i wi => ∃ (pre2 todo2 : List (ByteArray × Nat)) (A2 : Option Addr) (nq c2 j : Nat), m = (Ln lab).length - j ∧ j ≤ (Ln lab).length ∧ i = .int .i64 j ∧ todo2.length = nq ∧ q = .slice A2 nq c2 ∧ Hid (Que wi (W.heap.size + 1) 149 2 A2 nq c2 (flat plC todo2)) ∧ Hid (NotIn wr.heap.size A2 c2) ∧ Hid (Rm wi Tryd.prog 9 W.heap.size pre2.length (metG pre2)) ∧
            Hid (NxR wi Tryd.prog 9 108 hi bs bx bn N start gn Ln) ∧ Hid (BfsL Ln start pre2 todo2 (lab, st) ((Ln lab).drop j)) ∧ Hid (J pre2 wi) ∧ Hid (Bk wi wr.heap.size 149 #[.string lab, .int .i64 st]) ∧
            2 * (U.length + 1 - pre2.length) + todo2.length ≤ 2 * (U.length + 1 - pre.length) + todo.length ∧ W.heap.size + 1 ≤ wi.heap.size ∧ wr.heap.size < wi.heap.size)
          case atStart => exact ⟨pre, todo, A1, todo.length, c - 1, 0, rfl, Nat.zero_le _, rfl, rfl, rfl, HQp.out, HNI.out, HMp.out, HNp.out, HBL.out, HJp.out, HKP.out, Nat.le_refl _, by simp; omega, by simp⟩
          case round =>
            obtain ⟨pre2, todo2, A2, nq, c2, j, rfl, hj, rfl, hnq, rfl, hQ, hNI, hM, hN, hB, hJ2, hK, hcnt, hz2, hz3⟩ := hrel
            subst hnq
            have HGL2 := hB.out.got.len HUU.out
            by_cases hjn : j < (Ln lab).length
            · obtain ⟨An2, cn2, hgn2, hSn2, _⟩ := hN.out.rows lab
              rw [HGN.out] at hgn2
              simp only [Value.slice.injEq, true_and] at hgn2
              obtain ⟨rfl, rfl⟩ := hgn2
              obtain ⟨rb, ro, x, rfl, hrb, hx, y0⟩ := hSn2.str_at hjn
              have hxU : x ∈ U := HUU.out lab x (List.mem_of_getElem? hx)
              have hxs := HUS.out x hxU
              have hdrop : (Ln lab).drop j = x :: (Ln lab).drop (j + 1) := by
                rw [List.drop_eq_getElem_cons hjn]; congr 1; exact (List.getElem?_eq_some_iff.1 hx).2
              have hB2 := hB.out
              rw [hdrop] at hB2
              have hlz : (j : Int) < ((Ln lab).length : Int) := by omega
              have hlk := hM.out.look Tryd.underlying9 Tryd.underlying147 (Tryd.zeroValue4 _) hxs
              clear hSn2 hx hdrop hB
              by_cases hmet : x ∈ pre2.map Prod.fst
              · rw [metG_in hmet] at hlk
                simp only [Option.getD_some] at hlk
                have HB3 := Lib.hid (hB2.skip hmet)
                clear hB2 hmet
                gi_wp2
                gi_roundg ((Ln lab).length - (j + 1))
                case rel => exact ⟨pre2, todo2, A2, todo2.length, c2, j + 1, rfl, hjn, by go_num, rfl, rfl, hQ.out, hNI.out, hM.out, hN.out, HB3.out, hJ2.out, hK.out, hcnt, hz2, hz3⟩
                case measure => omega
              · rw [metG_out hmet] at hlk
                simp only [Option.getD_none] at hlk
                have HB3 := Lib.hid (hB2.take hmet)
                have HB3g := HB3.out.got.len HUU.out
                clear hB2 hmet
                have p1 := hK.out.cell 1
                simp only [List.getElem?_toArray, List.getElem?_cons_succ, List.getElem?_cons_zero] at p1
                gi_wp2_with (gi_at_mapUpdate; refine halt_ ?_)
                refine unhalt ?_
                refine wpListIn_put_rm rfl _ _ _ 147 rfl 9 4 Tryd.underlying9 Tryd.underlying147 W.heap.size pre2.length (metG pre2) rfl hM.out (by unfold maxLen; omega) x hxs (.bool true) rfl rfl ?_
                intro w2 hM2 hg2
                rw [← metG_put (st + 1)] at hM2
                have hS2 : StepR W.heap.size 149 wr w2 := StepR.of_grown hg2 (fun g e => by cases e; exact .inl rfl)
                have HM2 := Lib.hid hM2
                have HQ2 : Hid (Que w2 (W.heap.size + 1) 149 2 A2 todo2.length c2 (flat plC todo2)) := hQ.out.keep fun g cur hg => hg2.block g (Array.getElem?_eq_some_iff.1 hg).1 (fun e => by
                  cases e
                  obtain ⟨_, ⟨_, _, h1, _⟩, _⟩ := hM.out
                  rw [hg] at h1; cases h1)
                have HK2 : Hid (Bk w2 _ 149 #[.string lab, .int .i64 st]) := hK.out.grown hg2 (by simp; omega)
                have HN2 := Lib.hid (hN.out.step hS2 (by omega) (by omega) (by omega) (by omega))
                have HJ2' := Lib.hid (HJ.out pre2 _ _ hJ2.out hS2)
                have hz4 := hg2.size
                clear hM2 hg2 hS2 hM hQ hK hN hJ2 y0 hlk p1
                have p1 := HK2.out.cell 1
                simp only [List.getElem?_toArray, List.getElem?_cons_succ, List.getElem?_cons_zero] at p1
                obtain ⟨fn, tmps, assign, body, hy, hR⟩ := HY.out pre2 (x, st + 1) w2 HB3.out.got HJ2'.out
                simp only [Int.natCast_add, Int.cast_ofNat_Int] at hy
                have HR := Lib.hid hR
                clear hR
                gi_wp2
                refine HR.out.mono ?_
                rintro e W3 (⟨rfl, hJ3, hK3⟩ | ⟨rfl, hJx3⟩)
                · have HJ3 := Lib.hid hJ3
                  have HQ3 : Hid (Que W3 (W.heap.size + 1) 149 2 A2 todo2.length c2 (flat plC todo2)) := HQ2.out.keep fun g cur hg => hK3.block g (Array.getElem?_eq_some_iff.1 hg).1 (.inr (.inl (by rw [hg]; rfl)))
                  have HM3 := Lib.hid (HM2.out.block (hK3.block W.heap.size (by omega) (.inl rfl)))
                  have HK3 : Hid (Bk W3 _ 149 #[.string lab, .int .i64 st]) := (hK3.block _ HK2.out.lt (.inr (.inl (by rw [show _ = _ from HK2.out]; rfl)))).trans HK2.out
                  have HN3 := Lib.hid (HN2.out.round hK3 (by omega) (by omega) (by omega) (by omega))
                  have hz5 := hK3.size
                  clear hJ3 hK3 HR HJ2' HQ2 HM2 HK2 HN2 hy p1
                  have p1 := HK3.out.cell 1
                  simp only [List.getElem?_toArray, List.getElem?_cons_succ, List.getElem?_cons_zero] at p1
                  gi_wp2_with (gi_at_builtin; refine halt_ ?_)
                  refine unhalt ?_
                  refine wpListIn_append_que (base := W.heap.size + 1) (size := 2) rfl (.tmp 51) (.tmp 57) 150 rfl 149 i0 _ 24 Tryd.underlying150 Hi.out Hz0.out Hz1.out Hz2.out rfl (by decide) A2 todo2.length c2 (flat plC todo2) rfl ?own (W3.heap.size + 1) (some ⟨W3.heap.size, 0, none⟩) 1 1 (flat plC [(x, st + 1)]) ?hx ?hsl (by simp [flat, plC, Value.oneCell']) (by decide) ?l1 ?l2 ?l3 ?_
                  case own => exact HQ3.out.keep fun g cur hg => Below.heap_alloc _ _ _ (Array.getElem?_eq_some_iff.1 hg).1
                  case hx => rfl
                  case hsl => exact ⟨rfl, fun _ => ⟨_, 0, rfl, Nat.lt_succ_self _, fun j u hu => plC_get x _ j u W3 _ (by simpa [flat, plC] using hu)⟩⟩
                  case l1 => unfold maxLen; omega
                  case l2 => omega
                  case l3 => simp; omega
                  intro A4 c4 w4 row hQ4 hg4 hrow hA4
                  have hS4 : StepR W.heap.size 149 (W3.alloc (.cells #[.string x, .int .i64 (st + 1)] 149)) w4 := StepR.of_grown hg4 (fun g e => by
                    obtain ⟨h1, ⟨cur, h2⟩, _⟩ := hrow g e
                    exact .inr ⟨by omega, by rw [h2]; rfl⟩)
                  have HS4 := Lib.hid hS4
                  have hz6 := hg4.size
                  rw [World.size_alloc] at hz6
                  have hnb : ∀ g, row = some g → g ≠ _ := fun g e => by
                    obtain ⟨_, _, h3, off, h4⟩ := hrow g e
                    exact hNI.out h3 g off h4
                  have HK4 := Lib.hid ((HK3.out.alloc (.cells #[.string x, .int .i64 (st + 1)] 149)).grown hg4 (fun e => hnb _ e.symm rfl))
                  have HM4 := Lib.hid ((HM3.out.alloc (.cells #[.string x, .int .i64 (st + 1)] 149)).kept hg4 (fun e => by have := (hrow _ e.symm).1; omega))
                  have HN4 := Lib.hid ((HN3.out.step (StepR.alloc (bm := W.heap.size) (e := 149) W3 (.cells #[.string x, .int .i64 (st + 1)] 149)) (by omega) (by omega) (by omega) (by omega)).step HS4.out (by omega) (by omega) (by omega) (by simp; omega))
                  have HJ4 := Lib.hid (HJ.out _ _ _ (HJ.out _ _ _ HJ3.out (StepR.alloc W3 (.cells #[.string x, .int .i64 (st + 1)] 149))) HS4.out)
                  have HNI4 : Hid (NotIn _ A4 c4) := fun _ g off e => by
                    rcases hA4 g off e with ⟨h1, off', h2⟩ | h1
                    · exact hNI.out h1 g off' h2
                    · have := HK3.out.lt
                      simp at h1; omega
                  have HQ4 : Hid (Que w4 (W.heap.size + 1) 149 2 A4 (todo2.length + 1) c4 (flat plC (todo2 ++ [(x, st + 1)]))) := by
                    show Que _ _ _ _ _ _ _ _
                    rw [flat_append]; exact hQ4
                  clear hQ4 hg4 hrow hA4 hS4 hnb HS4 p1
                  gi_wp2
                  gi_roundg ((Ln lab).length - (j + 1))
                  case rel => exact ⟨pre2 ++ [(x, st + 1)], todo2 ++ [(x, st + 1)], A4, todo2.length + 1, c4, j + 1, rfl, hjn, by go_num, by simp, by simp, HQ4.out, HNI4.out, by show Rm _ _ _ _ _ _; rw [List.length_append]; exact HM4.out, HN4.out, HB3.out, HJ4.out, HK4.out, by simp at HB3g ⊢; omega, by omega, by omega⟩
                  case measure => omega
                · gi_wp2
                  simp only [Exit.noGoto]
                  go_end0
                  exact ⟨⟨_, rfl⟩, .inr ⟨_, HB3.out.got, hJx3⟩⟩
            · have hlz : ¬ (j : Int) < ((Ln lab).length : Int) := by omega
              have hBc : BfsL Ln start pre2 todo2 (lab, st) [] := by
                have h1 := hB.out; rwa [List.drop_of_length_le (by omega)] at h1
              have HB3 := Lib.hid hBc.close
              clear hBc hB
              gi_wp2
              gi_roundg (2 * (U.length + 1 - pre2.length) + todo2.length)
              case rel => exact ⟨pre2, todo2, A2, todo2.length, c2, rfl, rfl, rfl, hQ.out, hM.out, hN.out, HB3.out, hJ2.out, hz2, by omega⟩
              case measure => omega
end Go.Proofs.YtiphbincnnppdaaDoor

namespace Go.Proofs.YtiphbincnnppdaaDoor
open Go.RowKit Go.Maps
attribute [local go_sem] Oper.semAt_some

set_option maxHeartbeats 400000 in
theorem reached_any (b : Nat) (s : ByteArray) (w : World) :
    Calls Tryd.prog 57 #[.map (some b), .string s] w fun e w' => e = .returned (.func (.func 88) #[] #[.pointer (some ⟨w.heap.size + 1, 0, none⟩), .pointer (some ⟨w.heap.size, 0, none⟩)]) ∧
      w' = (w.alloc (.cells #[.map (some b)] 108)).alloc (.cells #[.string s] 9) := by
  go_enter Tryd.func57, Tryd.ntmps57
  go_wp2
  go_ret
  exact ⟨rfl, rfl⟩
/-- A map of lists of strings, with its rows below hi. -/
structure Nxm (w : World) (hi b N : Nat) (gn : ByteArray → Option Value) (Ln : ByteArray → List ByteArray) : Prop where
  lt : b < hi
  map : Rm w Tryd.prog 9 b N gn
  rows : ∀ s, ∃ A c, (gn s).getD (.slice none 0 0) = .slice A (Ln s).length c ∧ Sl w hi 1 A (Ln s).length (strs (Ln s)) ∧ (Ln s).length ≤ c ∧ c ≤ maxLen
theorem Nxm.keep {W W' : World} {hi b N : Nat} {gn : ByteArray → Option Value} {Ln : ByteArray → List ByteArray} (h : Nxm W hi b N gn Ln) (hk : ∀ j, j < hi → W'.heap[j]? = W.heap[j]?) : Nxm W' hi b N gn Ln :=
  ⟨h.lt, h.map.block (hk b h.lt), fun s => by
    obtain ⟨A, c, h1, h2, h3⟩ := h.rows s
    exact ⟨A, c, h1, h2.keep fun p hp => World.cell?_of_block (hk p.block hp), h3⟩⟩
theorem Nxm.below {W W' : World} {hi b N B : Nat} {gn : ByteArray → Option Value} {Ln : ByteArray → List ByteArray} (h : Nxm W hi b N gn Ln) (hb : Below B W W') (hB : hi ≤ B) : Nxm W' hi b N gn Ln := h.keep fun j hj => hb.block j (by omega)
/-- behind reached's two boxes -/
theorem Nxm.boxed {W : World} {hi b N : Nat} {gn : ByteArray → Option Value} {Ln : ByteArray → List ByteArray} (h : Nxm W hi b N gn Ln) (hz : hi ≤ W.heap.size) (s : ByteArray) :
    NxR ((W.alloc (.cells #[.map (some b)] 108)).alloc (.cells #[.string s] 9)) Tryd.prog 9 108 hi (W.heap.size + 1) W.heap.size b N s gn Ln := by
  have h2 := h.below (((Below.refl _ W).alloc (Nat.le_refl _) (.cells #[.map (some b)] 108)).alloc (by simp) (.cells #[.string s] 9)) hz
  refine ⟨?_, ?_, h2.lt, h2.map, h2.rows⟩
  · have := World.alloc_heap_new (W.alloc (.cells #[.map (some b)] 108)) (.cells #[.string s] 9); rwa [World.size_alloc] at this
  · exact (Below.heap_alloc _ _ _ (by simp)).trans (World.alloc_heap_new W _)
theorem keepR_put {bm : Nat} {e : TypeId} {Kf : Nat → Prop} (W : World) (l : Nat) (r : Loop) (o' : Obj) (hl : W.heap[l]? = some (.loop r)) (hb : l ≠ bm) (hf : ¬ Kf l) : KeepR bm e Kf W (W.putObj l o') :=
  ⟨by simp, fun k _ hk => World.putObj_heap_other (fun e' => by
    subst e'
    rcases hk with h | h | h
    · exact hb h
    · rw [hl] at h; exact h
    · exact hf h)⟩
theorem KeepR.refl (bm : Nat) (e : TypeId) (Kf : Nat → Prop) (W : World) : KeepR bm e Kf W W := ⟨Nat.le_refl _, fun _ _ _ => rfl⟩
theorem StepR.below {bm B : Nat} {e : TypeId} {A C w : World} (h : StepR bm e A C) (hb : Below B w A) (hB : B ≤ bm) (hz : B ≤ A.heap.size) : Below B w C :=
  hb.trans ⟨h.os, h.tape, h.output, h.size, fun k hk => h.block k (by omega) (.inl (by omega))⟩
theorem stepR_rec {bm D : Nat} {e : TypeId} {A C : World} (h : StepR bm e A C) (hD : D + 2 = bm) (hz : bm ≤ A.heap.size) : Rec2 D A C :=
  ⟨h.block D (by omega) (.inl (by omega)), h.block (D + 1) (by omega) (.inl (by omega))⟩
theorem one_grown {w w' : World} {b : Nat} {v : Value} {t : TypeId} {row : Option Nat} (h : w.heap[b]? = some (.cells #[v] t (0, 0))) (hg : w.grownBy w' row) (hr : some b ≠ row) : w'.heap[b]? = some (.cells #[v] t (0, 0)) :=
  (hg.block b (Array.getElem?_eq_some_iff.1 h).1 hr).trans h
theorem resultsRet {w : World} {a : Array Value} {r : Nat} {x : Bool} (ha : a[4]?.getD undef = .pointer (some ⟨r, 0, none⟩)) (h : w.heap[r]? = some (.cells #[.bool x] 4 (0, 0))) :
    (results Tryd.f112 a).run Tryd.prog w = .ok (.bool x) w := by
  have hc := cell_of_one h
  simp [results, Tryd.results112, ha, go_sem, hc]

set_option maxRecDepth 100000 in
set_option maxHeartbeats 2000000 in
theorem returns_any (hi b N : Nat) (s : ByteArray) (gn : ByteArray → Option Value) (Ln : ByteArray → List ByteArray) (U : List ByteArray) (w : World) (hm : Nxm w hi b N gn Ln) (hz : hi ≤ w.heap.size)
    (hU : ∀ x, ∀ y ∈ Ln x, y ∈ U) (hUl : U.length ≤ 1000) (hUs : ∀ y ∈ U, y.size ≤ maxLen) (hss : s.size ≤ maxLen) :
    Calls Tryd.prog 112 #[.map (some b), .string s] w fun e w' => ∃ r : Bool, e = .returned (.bool r) ∧ (r = true ↔ Rch Ln s s) ∧ Below w.heap.size w w' := by
  refine (callsIn_wide (n := 6)).1 ?_
  have hf1 : Fence.wide.fn 57 := trivial
  have HM := Lib.hid hm; have HU := Lib.hid hU; have HUS := Lib.hid hUs
  clear hm hU hUs
  refine callsIn_of_wp_marks Tryd.func112 rfl trivial ?_ rfl
  simp only [Tryd.ntmps112, List.size_toArray, List.length_cons, List.length_nil, Nat.reduceAdd, Nat.reduceSub, Array.replicate_succ, Array.replicate_zero, List.push_toArray, List.append_toArray, List.nil_append, List.cons_append]
  gi_wp2_with (gi_at_call 57; refine (callsIn_wide.2 (reached_any _ _ _)).mono ?_; rintro e w' ⟨rfl, rfl⟩)
  obtain ⟨W1, hW1⟩ : ∃ W1, (w.alloc (.cells #[.string s] 9)).alloc (.cells #[.bool false] 4) = W1 := ⟨_, rfl⟩
  have hz1 : W1.heap.size = w.heap.size + 2 := by rw [← hW1]; simp
  have hb1 : Below w.heap.size w W1 := by rw [← hW1]; exact ((Below.refl _ w).alloc (Nat.le_refl _) _).alloc (by simp) _
  have g0 : W1.heap[w.heap.size]? = some (.cells #[.string s] 9 (0, 0)) := by rw [← hW1]; exact (Below.heap_alloc _ _ _ (by simp)).trans (World.alloc_heap_new w _)
  have g1 : W1.heap[w.heap.size + 1]? = some (.cells #[.bool false] 4 (0, 0)) := by
    rw [← hW1]
    have := World.alloc_heap_new (w.alloc (.cells #[.string s] 9)) (.cells #[.bool false] 4); rwa [World.size_alloc] at this
  have hnx : NxR ((W1.alloc (.cells #[.map (some b)] 108)).alloc (.cells #[.string s] 9)) Tryd.prog 9 108 hi (w.heap.size + 1 + 1 + 1) (w.heap.size + 1 + 1) b N s gn Ln := by
    have := (HM.out.below hb1 hz).boxed (by omega) s
    rw [hz1] at this; exact this
  rw [hW1]
  obtain ⟨W2, hW2⟩ : ∃ W2, (W1.alloc (.cells #[.map (some b)] 108)).alloc (.cells #[.string s] 9) = W2 := ⟨_, rfl⟩
  have hz2 : W2.heap.size = w.heap.size + 4 := by rw [← hW2]; simp; omega
  have hb12 : Below W1.heap.size W1 W2 := by rw [← hW2]; exact ((Below.refl _ W1).alloc (Nat.le_refl _) _).alloc (by simp) _
  have hb2 : Below w.heap.size w W2 := hb1.trans (hb12.mono (by omega))
  replace g0 := (hb12.block w.heap.size (by omega)).trans g0
  replace g1 := (hb12.block (w.heap.size + 1) (by omega)).trans g1
  rw [hW2] at hnx ⊢
  clear hW1 hW2 hb12 hb1 hz1 W1
  refine wpIn_rangeT (α := ByteArray × Nat) (F := Fence.wide) (n := 6) rfl (by omega) (gf := 88) (lb := #[.pointer (some ⟨w.heap.size + 1 + 1 + 1, 0, none⟩), .pointer (some ⟨w.heap.size + 1 + 1, 0, none⟩)]) rfl trivial (enters_of Tryd.func88 (by kernel_rfl) rfl)
    (reached_st 5 (by omega) hi (w.heap.size + 1 + 1 + 1) (w.heap.size + 1 + 1) b N (W2.heap.size + 2) s gn Ln U W2 hnx (by omega) (by omega) (by omega) (by omega) HU.out hUl HUS.out hss) KeepR.trans (fun W l r o' hl hlr => keepR_put W l r o' hlr (by omega) (by omega)) (fun A C h hA => stepR_rec h rfl hA) (Below.refl _ _) (fun _ => rfl)
    (fun pre W => W.heap[w.heap.size]? = some (.cells #[.string s] 9 (0, 0)) ∧ W.heap[w.heap.size + 1]? = some (.cells #[.bool false] 4 (0, 0)) ∧ Hid (∀ x ∈ pre, x.1 ≠ s) ∧ Below w.heap.size w W ∧ w.heap.size + 4 ≤ W.heap.size)
    (fun c pre W => c = .ret ∧ W.heap[w.heap.size + 1]? = some (.cells #[.bool true] 4 (0, 0)) ∧ Hid (∃ x ∈ pre, x.1 = s) ∧ Below w.heap.size w W)
    ?hI ?hIx ?hIS ⟨g0, g1, (fun x h => by cases h), hb2, by omega⟩
    (fun x => { tmps := #[.map (some b), .string s, undef, .pointer (some ⟨w.heap.size, 0, none⟩), .pointer (some ⟨w.heap.size + 1, 0, none⟩), .string x.1, .map (some b), .string s, .func (.func 88) #[] #[.pointer (some ⟨w.heap.size + 1 + 1 + 1, 0, none⟩), .pointer (some ⟨w.heap.size + 1 + 1, 0, none⟩)], .string x.1, .int .i64 x.2, undef, undef, undef], defers := [] }) ?assign ?body ?done ?stop
  case hI =>
    rintro pre A C row ⟨h0, h1, h2, h3, h4⟩ hg hr
    refine ⟨one_grown h0 hg (fun e => ?_), one_grown h1 hg (fun e => ?_), h2, h3.grown hg h3.size (fun k e => ?_), Nat.le_trans h4 hg.size⟩
    · have := (hr _ e.symm).1; omega
    · have := (hr _ e.symm).1; omega
    · have := (hr _ e).1; omega
  case hIx =>
    rintro c pre A C row ⟨h0, h1, h2, h3⟩ hg hr
    refine ⟨h0, one_grown h1 hg (fun e => ?_), h2, h3.grown hg h3.size (fun k e => ?_)⟩
    · have := (hr _ e.symm).1; omega
    · have := (hr _ e).1; omega
  case hIS =>
    rintro pre A C ⟨h0, h1, h2, h3, h4⟩ hs
    exact ⟨(hs.block _ (by omega) (.inl (by omega))).trans h0, (hs.block _ (by omega) (.inl (by omega))).trans h1, h2, hs.below h3 (by omega) (by omega), Nat.le_trans h4 hs.size⟩
  case assign =>
    intro l x W K hK
    gi_wp2
    exact hK
  case body =>
    rintro l pre x W hpf _ ⟨h0, h1, h2, h3, h4⟩
    have c0 := cell_of_one h0
    have c1 := cell_of_one h1
    have f1 := free_of_one h1
    have H0 := Lib.hid h0; have H1 := Lib.hid h1; have H3 := Lib.hid h3
    obtain ⟨y, k⟩ := x
    clear h0 h1 h3 g0 g1 hb2 hnx hpf
    by_cases e : y = s
    · subst e
      gi_wp2
      exact ⟨⟨Below.heap_setCell _ _ _ _ (by simp; omega), Below.heap_setCell _ _ _ _ (by simp; omega)⟩, rfl, one_setCell H1.out, ⟨(y, k), by simp, rfl⟩, H3.out.setCell (p := ⟨w.heap.size + 1, 0, none⟩) (by simp) _⟩
    · have hne := str_ne e
      have HE := Lib.hid e
      clear e
      gi_wp2
      refine ⟨Rec2.refl _ _, KeepR.refl _ _ _ _, H0.out, H1.out, ?_, H3.out, h4⟩
      intro z hz'
      rcases List.mem_append.1 hz' with h | h
      · exact h2.out z h
      · rw [List.mem_singleton.1 h]; exact HE.out
  case done =>
    rintro D xs W hD ⟨_, hS⟩ ⟨h0, h1, h2, h3, h4⟩ hK
    have c1 := cell_of_one h1
    have f1 := free_of_one h1
    have H1 := Lib.hid h1; have H3 := Lib.hid h3; have HK := Lib.hid hK; have HS := Lib.hid hS
    clear h0 h1 h3 hK hS
    gi_wp2
    have hK2 := (KeepsOthers.setCell W ⟨w.heap.size + 1, 0, none⟩ (.bool false)).same D _ HK.out rfl
    refine ⟨by simp, .inl ⟨_, _, rfl, run_takeDeferred hK2, ?_⟩⟩
    refine ⟨_, resultsRet rfl ((World.putObj_heap_other (by omega)).trans (one_setCell H1.out)), false, rfl, ?_, ?_⟩
    · constructor
      · intro h; cases h
      · intro h
        obtain ⟨x, hx, e⟩ := List.mem_map.1 ((HS.out s).2 h)
        exact absurd e (h2.out x hx)
    · exact (H3.out.setCell (p := ⟨w.heap.size + 1, 0, none⟩) (by simp) _).grown (grownBy_putObj' _ _ _) ((H3.out.setCell (p := ⟨w.heap.size + 1, 0, none⟩) (by simp) _).size) (fun k e => by cases e; omega)
  case stop =>
    rintro D c pre W hD hS ⟨rfl, h1, h2, h3⟩ hK
    have H1 := Lib.hid h1; have H3 := Lib.hid h3; have HK := Lib.hid hK; have HS := Lib.hid hS
    clear h1 h3 hK hS
    gi_wp2
    refine ⟨by simp, .inl ⟨_, _, rfl, run_takeDeferred HK.out, ?_⟩⟩
    refine ⟨_, resultsRet rfl ((World.putObj_heap_other (by omega)).trans H1.out), true, rfl, ?_, ?_⟩
    · obtain ⟨x, hx, e⟩ := h2.out
      exact ⟨fun _ => HS.out.sound s (e ▸ List.mem_map_of_mem hx), fun _ => rfl⟩
    · exact H3.out.grown (grownBy_putObj' _ _ _) H3.out.size (fun k e => by cases e; omega)
end Go.Proofs.YtiphbincnnppdaaDoor
