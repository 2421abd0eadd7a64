/-
  Lemmas: As in Range2; moreover the iterator knows where memory ends when it is entered (hz), and what a round keeps (Kp) has to be shown of the loop's own record only where that record lies. For graph.reached's walk: laws inside a fence (append onto a queue, a store into a map), and what the iterator and its rounds leave alone. The words of a text, in plain Lean, and buildfile.words' iterator. As in Range3; moreover the code that takes an element may make memory of its own (a variable that is boxed): the world changes ahead of the round. The search with numbers of steps, as graph.reached makes it: what it has handed over (pre) and its queue (todo). Plain Lean; no program in sight. A scope (a function that holds a label) inside a fence, where no goto is taken. Over any program. graph.reached's iterator, walked. graph.reached and graph.returns. graph.edges: the labels on which targets depend directly, and those that depend on them.
-/
import Derived.OwnWalkIn
import Derived.Scope
import Derived.ControlIn
import Derived.Sort.LoopGhostIn
import Derived.Maps.OwnIn
import Derived.Test.YtddlohbhchjjhaaGreatDoorU2

namespace Go.Proofs.YtddlohbhchjjhaaGreatDoor
open Go.RowKit

def SeqT {α : Type} (F : Fence) (n : Nat) (P : Program) (g : Nat) (lb : Array Value) (encs : α → Array Value) (Kp St : World → World → Prop) (Pf S Sp : List α → Prop) (hz : Nat) (w : World) : Prop :=
  ∀ (l : Nat) (J Jx : List α → World → Prop) (W : World), Below w.heap.size w W → W.heap.size = hz → (∀ pre A B, J pre A → St A B → J pre B) →
    (∀ pre x W1, Pf (pre ++ [x]) → J pre W1 → YieldAt F (n - 1) P l (encs x) W1 fun e W' =>
      (e = .returned (.bool true) ∧ J (pre ++ [x]) W' ∧ Kp W1 W') ∨ (e = .returned (.bool false) ∧ Jx (pre ++ [x]) W')) →
    J [] W →
    CallsIn F n P g (#[.func (.yield l) #[] #[]] ++ lb) W fun e W' => (∃ v, e = .returned v) ∧ ((∃ xs, S xs ∧ J xs W') ∨ (∃ pre, Sp pre ∧ Jx pre W'))

def Rec2 (D : Nat) (W W' : World) : Prop := W'.heap[D]? = W.heap[D]? ∧ W'.heap[D + 1]? = W.heap[D + 1]?
theorem Rec2.refl (D : Nat) (W : World) : Rec2 D W W := ⟨rfl, rfl⟩
def ownPostT {α : Type} (D : Nat) (Kp : World → World → Prop) (I : List α → World → Prop) (Ix : Code → List α → World → Prop) (xs : List α) (W : World) : Exit → Act → World → Prop
  | .normal, _, W' => Rec2 D W W' ∧ Kp W W' ∧ I xs W'
  | .ret, _, W' => Rec2 D W W' ∧ Ix .ret xs W'
  | .exit id, _, W' => Rec2 D W W' ∧ Ix (.exit id) xs W'
  | .goto t, _, W' => Rec2 D W W' ∧ Ix (.goto t) xs W'
  | .panic _, _, _ => False
  | .outgrown, _, _ => False
variable {F : Fence} {n : Nat} {P : Program}

theorem wpIn_rangeT {α : Type} {g : Operand} {ps : Array Tmp} {assign body : Code} {Q : Exit → Act → World → Prop} {a : Act} {w : World}
    (hro : F.round = none) (h1 : 1 ≤ n) {gf : Nat} {lb : Array Value} (hg : a.eval g = .func (.func gf) #[] lb) (hFg : F.fn gf) (eg : ∀ args w, (callFunc gf args).run P w = .ok (.enter gf args) w)
    {encs : α → Array Value} {Kp St : World → World → Prop} {Pf S Sp : List α → Prop} {w0 : World} (hseq : SeqT F (n - 1) P gf lb encs Kp St Pf S Sp (w.heap.size + 2) w0)
    (hKt : ∀ {A B C : World}, Kp A B → Kp B C → Kp A C) (hKb : ∀ (W : World) (l : Nat) (r : Loop) (o' : Obj), w.heap.size + 1 = l → W.heap[l]? = some (.loop r) → Kp W (W.putObj l o')) (hSo : ∀ A B, St A B → w.heap.size + 2 ≤ A.heap.size → Rec2 w.heap.size A B) (hb0 : Below w0.heap.size w0 w) (hps : ∀ x, (encs x).size = ps.size)
    (I : List α → World → Prop) (Ix : Code → List α → World → Prop) (hI : OwnFrom w.heap.size I) (hIx : ∀ c, OwnFrom w.heap.size (Ix c)) (hIS : ∀ pre A B, I pre A → St A B → I pre B) (h0 : I [] w) (a₁ : α → Act)
    (hassign : ∀ (l : Nat) (x : α) (W : World) (K : Act → World → Prop), K (a₁ x) W →
      assign.wpIn (F.inRound l) (n - 1 - 1) P (Exit.then K (fun _ _ _ => False)) { tmps := (ps.zip (encs x)).foldl (fun t (p, v) => t.setIfInBounds p v) a.tmps, defers := [] } W)
    (hbody : ∀ (l : Nat) (pre : List α) (x : α) (W : World), Pf (pre ++ [x]) → w.heap.size + 2 ≤ W.heap.size → I pre W → body.wpIn (F.inRound l) (n - 1 - 1) P (ownPostT w.heap.size Kp I Ix (pre ++ [x]) W) (a₁ x) W)
    (hdone : ∀ (D : Nat) (xs : List α) (W : World), w.heap.size ≤ D → S xs → I xs W → W.heap[D]? = some (.deferred (some [])) → Q .normal { a with defers := { target := .collected D, args := #[] } :: a.defers } W)
    (hstop : ∀ (D : Nat) (c : Code) (pre : List α) (W : World), w.heap.size ≤ D → Sp pre → Ix c pre W → W.heap[D]? = some (.deferred (some [])) → c.wpIn F n P Q { a with defers := { target := .collected D, args := #[] } :: a.defers } W) :
    (Code.rangeFunc g ps assign body).wpIn F n P Q a w := by
  refine wpIn_rangeFunc ?_
  intro fn hfn
  rw [hro]
  -- the loop's record in block L, the block of its deferred calls in block D
  obtain ⟨D, hD⟩ : ∃ D, w.heap.size = D := ⟨_, rfl⟩
  obtain ⟨rec, hrec⟩ : ∃ rec : LoopState → Option Code → Loop, rec = fun st pe => { state := st, pending := pe, fn, tmps := a.tmps, params := ps, assign, body, defers := D } := ⟨_, rfl⟩
  obtain ⟨W1, hW1⟩ : ∃ W1, (w.alloc (.deferred (some []))).alloc (.loop (rec .ready none)) = W1 := ⟨_, rfl⟩
  have hL1 : W1.heap[D + 1]? = some (.loop (rec .ready none)) := by
    rw [← hW1, ← hD]; have := World.alloc_heap_new (w.alloc (.deferred (some []))) (.loop (rec .ready none)); rwa [World.size_alloc] at this
  have hK1 : W1.heap[D]? = some (.deferred (some [])) := by
    rw [← hW1, ← hD]; exact (Below.heap_alloc _ _ _ (by simp)).trans (World.alloc_heap_new w _)
  have hI1 : I [] W1 := by rw [← hW1]; exact hI.alloc _ (hI.alloc _ h0)
  have hb1 : Below w0.heap.size w0 W1 := by
    rw [← hW1]; exact hb0.trans ((((Below.refl _ w).alloc (Nat.le_refl _) _).alloc (by simp) _).mono hb0.size)
  refine ⟨D + 1, [{ target := .collected D, args := #[] }], W1, { target := .fn (.func gf) lb, args := #[.func (.yield (D + 1)) #[] #[]] }, W1, gf,
    #[.func (.yield (D + 1)) #[] #[]] ++ lb, W1, ?_, ?_, ?_, ?_, fun _ => h1, ?_⟩
  · rw [← hW1, hrec, ← hD]; exact run_enterLoop_outer _ _ _ _ _
  · simp only [resolve, hg]
    simp [go_sem]
  · intro f' hf'; simp [Target.leads] at hf'; subst hf'; exact hFg
  · simp [invoke, go_sem, eg]
  · refine (hseq (D + 1)
      (fun pre W => I pre W ∧ W.heap[D + 1]? = some (.loop (rec .ready none)) ∧ W.heap[D]? = some (.deferred (some [])))
      (fun pre W => ∃ c, Ix c pre W ∧ W.heap[D + 1]? = some (.loop (rec .done (some c))) ∧ W.heap[D]? = some (.deferred (some [])))
      W1 hb1 (by rw [← hW1]; simp)
      (fun pre A B hs hst => by
        have hz2 := (Array.getElem?_eq_some_iff.1 hs.2.1).1
        have hr := hSo A B hst (by omega)
        rw [hD] at hr
        exact ⟨hIS pre A B hs.1 hst, hr.2.trans hs.2.1, hr.1.trans hs.2.2⟩)
      ?_ ⟨hI1, hL1, hK1⟩).mono ?_
    · rintro pre x W hpf ⟨hi, hl, hk⟩
      have hlt : D + 1 < W.heap.size := (Array.getElem?_eq_some_iff.1 hl).1
      have hy := run_yield (P := P) (args := encs x) hl (by rw [hrec]; exact hps x)
      rw [hrec] at hy
      refine ⟨fn, _, assign, body, hy, roundIn_of_wpIn hfn (hassign _ x W _ ⟨_, run_beginRound hl (by rw [hrec]), ?_⟩)⟩
      obtain ⟨W2, hW2⟩ : ∃ W2, W.putObj (D + 1) (.loop { rec .ready none with state := .busy }) = W2 := ⟨_, rfl⟩
      have hl2 : W2.heap[D + 1]? = some (.loop { rec .ready none with state := .busy }) := by rw [← hW2]; exact World.putObj_heap_same hlt
      have hk2 : W2.heap[D]? = some (.deferred (some [])) := by rw [← hW2]; exact (World.putObj_heap_other (by omega)).trans hk
      have hw2 : Kp W W2 := by rw [← hW2]; exact hKb _ _ _ _ (by omega) hl
      have hi2 : I pre W2 := by rw [← hW2]; exact hI.putObj _ hi (by omega) hl rfl
      rw [hW2]
      refine wpIn_mono (hbody _ pre x _ hpf (by have := (Array.getElem?_eq_some_iff.1 hl2).1; omega) hi2) ?_
      have fin : ∀ (jump : Option Code) (W3 : World), Rec2 w.heap.size W2 W3 →
          (Instr.endRound (D + 1) jump).run P W3 = .ok (.bool jump.isNone) (W3.putObj (D + 1) (.loop (rec (if jump.isNone then .ready else .done) jump))) ∧
          W3.heap[D + 1]? = some (.loop { rec .ready none with state := .busy }) ∧
          (W3.putObj (D + 1) (.loop (rec (if jump.isNone then .ready else .done) jump))).heap[D + 1]? = some (.loop (rec (if jump.isNone then .ready else .done) jump)) ∧
          (W3.putObj (D + 1) (.loop (rec (if jump.isNone then .ready else .done) jump))).heap[D]? = some (.deferred (some [])) := fun jump W3 hk3 => by
        rw [hD] at hk3
        have hl3 := hk3.2.trans hl2
        have := run_endRound (P := P) jump hl3
        rw [hrec] at this ⊢
        exact ⟨this, by rw [hrec] at hl3; exact hl3, World.putObj_heap_same (Array.getElem?_eq_some_iff.1 hl3).1, (World.putObj_heap_other (by omega)).trans (hk3.1.trans hk2)⟩
      rintro e a3 W3 hp
      cases e with
      | normal =>
        obtain ⟨hk3, hkp3, hi3⟩ := hp
        obtain ⟨hr, hl3, hl4, hk4⟩ := fin none W3 hk3
        exact ⟨_, _, hr, .inl ⟨rfl, ⟨hI.putObj _ hi3 (by omega) hl3 rfl, hl4, hk4⟩, hKt (hKt hw2 hkp3) (hKb _ _ _ _ (by omega) hl3)⟩⟩
      | ret =>
        obtain ⟨hk3, hi3⟩ := hp
        obtain ⟨hr, hl3, hl4, hk4⟩ := fin (some .ret) W3 hk3
        exact ⟨_, _, hr, .inr ⟨rfl, .ret, (hIx _).putObj _ hi3 (by omega) hl3 rfl, hl4, hk4⟩⟩
      | exit id =>
        obtain ⟨hk3, hi3⟩ := hp
        obtain ⟨hr, hl3, hl4, hk4⟩ := fin (some (.exit id)) W3 hk3
        exact ⟨_, _, hr, .inr ⟨rfl, .exit id, (hIx _).putObj _ hi3 (by omega) hl3 rfl, hl4, hk4⟩⟩
      | goto t =>
        obtain ⟨hk3, hi3⟩ := hp
        obtain ⟨hr, hl3, hl4, hk4⟩ := fin (some (.goto t)) W3 hk3
        exact ⟨_, _, hr, .inr ⟨rfl, .goto t, (hIx _).putObj _ hi3 (by omega) hl3 rfl, hl4, hk4⟩⟩
      | panic ch => exact hp.elim
      | outgrown => exact hp.elim
    · rintro e W2 ⟨⟨v, rfl⟩, (⟨xs, hS, hi, hl, hk⟩ | ⟨pre, hSp, c, hi, hl, hk⟩)⟩
      · exact ⟨none, _, by have := run_endLoop (P := P) hl (by rw [hrec]; simp); rw [hrec] at this; exact this, hdone _ xs _ (by omega) hS (hI.putObj _ hi (by omega) hl rfl) ((World.putObj_heap_other (by omega)).trans hk)⟩
      · exact ⟨some c, _, by have := run_endLoop (P := P) hl (by rw [hrec]; simp); rw [hrec] at this; exact this, hstop _ c pre _ (by omega) hSp ((hIx c).putObj _ hi (by omega) hl rfl) ((World.putObj_heap_other (by omega)).trans hk)⟩
end Go.Proofs.YtddlohbhchjjhaaGreatDoor

namespace Go.Proofs.YtddlohbhchjjhaaGreatDoor
open Go.RowKit Go.Maps

section
variable {F : Fence} {n' : Nat} {P : Program} {w : World}
theorem wpListIn_append_que {base size : Nat} {ops : Array Oper} {rest : List Oper} {o : Oper} {a : Act} {Q : Exit → Act → World → Prop} (hgd : o.guard = none) (s x : Operand) (t : TypeId)
    (ho : o.op = .call { callee := .builtin .append, args := #[s, x], argTypes := #[t, t] })
    (e : TypeId) (i : TypeInfo) (z : Value) (bytes : Nat) (ht : P.underlying t = some (.slice e)) (hi : P.info? e = some i) (hz : i.zero = some z)
    (hsize : i.size = size) (hby : i.bytes = bytes) (hzs : z.cells.size = size) (hsz : 0 < size)
    (A : Option Addr) (n c : Nat) (xs : List Value) (hs : a.eval s = .slice A n c) (hown : Que w base e size A n c xs)
    (B : Nat) (A' : Option Addr) (m c' : Nat) (ys : List Value) (hx : a.eval x = .slice A' m c') (hsl : Sl w B size A' m ys) (h1 : ∀ u ∈ ys, u.oneCell' = true) (hm : 0 < m)
    (h63 : n + m ≤ maxLen) (hbytes : (n + m) * bytes ≤ 140737488355328) (hbase : base ≤ w.heap.size)
    (h : ∀ A2 c2 w' row, Que w' base e size A2 (n + m) c2 (xs ++ ys) → w.grownBy w' row → (∀ g, row = some g → base ≤ g ∧ (∃ cur, w.heap[g]? = some (.cells cur e (0, 0))) ∧ c ≠ 0 ∧ ∃ off, A = some ⟨g, off, none⟩) → (∀ g off, A2 = some ⟨g, off, none⟩ → (c ≠ 0 ∧ ∃ off, A = some ⟨g, off, none⟩) ∨ w.heap.size ≤ g) → wpListIn F n' P ops Q rest (a.put o.dst (.slice A2 (n + m) c2)) w') : wpListIn F n' P ops Q (o :: rest) a w := by
  refine wpListIn_plain hgd fun K hK => ?_
  obtain ⟨A2, c2, w', row, hr, h2, h3, h4, h5⟩ := run_append_que (P := P) t o.type i z bytes ht hi hz hsize hby hzs hsz hown (c' := c') hsl h1 hm h63 hbytes hbase
  unfold Oper.wpIn
  refine ⟨?_, ?_⟩
  · simp [Oper.about, ho, resolve, Target.leads, Sem.run_pure]
  · rw [Oper.semAt_plain F _ _ (by rw [ho]; intro c hc'; cases hc')]
    simp [execOp, ho, resolve, invoke, builtin, hs, hx, hr, Result.andThen]
    exact hK _ _ (h A2 c2 w' row h2 h3 h4 h5)
theorem wpListIn_append_sl {base size : Nat} {ops : Array Oper} {rest : List Oper} {o : Oper} {a : Act} {Q : Exit → Act → World → Prop} (hgd : o.guard = none) (s x : Operand) (t : TypeId)
    (ho : o.op = .call { callee := .builtin .append, args := #[s, x], argTypes := #[t, t] })
    (e : TypeId) (i : TypeInfo) (z : Value) (bytes : Nat) (ht : P.underlying t = some (.slice e)) (hi : P.info? e = some i) (hz : i.zero = some z)
    (hsize : i.size = size) (hby : i.bytes = bytes) (hzs : z.cells.size = size) (hsz : 0 < size)
    (v : Value) (n : Nat) (xs : List Value) (hs : a.eval s = v) (hown : w.ownsRow base e size v n xs)
    (B : Nat) (A : Option Addr) (m c : Nat) (ys : List Value) (hx : a.eval x = .slice A m c) (hsl : Sl w B size A m ys) (h1 : ∀ u ∈ ys, u.oneCell' = true)
    (h63 : n + m ≤ maxLen) (hbytes : (n + m) * bytes ≤ 140737488355328) (hbase : base ≤ w.heap.size)
    (h : ∀ A' c' w', w'.ownsRow base e size (.slice A' (n + m) c') (n + m) (xs ++ ys) → w.grownBy w' v.ownBlock → n + m ≤ c' → c' ≤ maxLen → wpListIn F n' P ops Q rest (a.put o.dst (.slice A' (n + m) c')) w') : wpListIn F n' P ops Q (o :: rest) a w := by
  refine wpListIn_plain hgd fun K hK => ?_
  obtain ⟨A', c', w', hr, ho', hg, hc1, hc2⟩ := run_append_sl (P := P) t o.type i z bytes ht hi hz hsize hby hzs hsz hown (c := c) hsl h1 h63 hbytes hbase
  unfold Oper.wpIn
  refine ⟨?_, ?_⟩
  · simp [Oper.about, ho, resolve, Target.leads, Sem.run_pure]
  · rw [Oper.semAt_plain F _ _ (by rw [ho]; intro c hc'; cases hc')]
    simp [execOp, ho, resolve, invoke, builtin, hs, hx, hr, Result.andThen]
    exact hK _ _ (h A' c' w' ho' hg hc1 hc2)
theorem wpListIn_put_rm {ops : Array Oper} {rest : List Oper} {o : Oper} {a : Act} {Q : Exit → Act → World → Prop} (hgd : o.guard = none) (m x y : Operand) (t : TypeId) (hop : o.op = Op.mapUpdate t m x y)
    (k e : TypeId) (hk : P.underlying k = some .string) (ht : P.underlying t = some (.map k e)) (b N : Nat) (g : ByteArray → Option Value) (hm : a.eval m = .map (some b)) (h : Rm w P k b N g) (hn : N < maxLen)
    (s : ByteArray) (hs : s.size ≤ maxLen) (v : Value) (hx : a.eval x = .string s) (hy : a.eval y = v)
    (hK : ∀ w', Rm w' P k b (N + 1) (upd g s v) → w.grownBy w' (some b) → wpListIn F n' P ops Q rest (a.put o.dst undef) w') : wpListIn F n' P ops Q (o :: rest) a w := by
  refine wpListIn_plain hgd fun K' hK' => ?_
  obtain ⟨w', hrun, r1, r2⟩ := h.put hk ht hn hs v
  unfold Oper.wpIn
  refine ⟨?_, ?_⟩
  · simp [Oper.about, hop]
  · rw [Oper.semAt_plain F _ _ (by rw [hop]; intro c hc'; cases hc')]
    simp [execOp, hop, hm, hx, hy, hrun, Result.andThen]
    exact hK' _ _ (hK w' r1 r2)
end

def isRow (e : TypeId) : Option Obj → Prop
  | some (.cells _ t _) => t = e
  | _ => False
structure KeepR (bm : Nat) (e : TypeId) (Kf : Nat → Prop) (A B : World) : Prop where
  size : A.heap.size ≤ B.heap.size
  block : ∀ k, k < A.heap.size → (k = bm ∨ isRow e A.heap[k]? ∨ Kf k) → B.heap[k]? = A.heap[k]?
theorem KeepR.trans {bm : Nat} {e : TypeId} {Kf : Nat → Prop} {A B C : World} (h : KeepR bm e Kf A B) (g : KeepR bm e Kf B C) : KeepR bm e Kf A C :=
  ⟨Nat.le_trans h.size g.size, fun k hk hc => by
    have h1 := h.block k hk hc
    rw [← h1] at hc ⊢
    exact g.block k (Nat.lt_of_lt_of_le hk h.size) hc⟩
structure StepR (bm : Nat) (e : TypeId) (A B : World) : Prop where
  os : B.os = A.os
  tape : B.tape = A.tape
  output : B.output = A.output
  size : A.heap.size ≤ B.heap.size
  block : ∀ k, k < A.heap.size → (k < bm ∨ (k ≠ bm ∧ ¬ isRow e A.heap[k]?)) → B.heap[k]? = A.heap[k]?
theorem StepR.of_grown {bm : Nat} {e : TypeId} {A B : World} {row : Option Nat} (hg : A.grownBy B row) (hr : ∀ g, row = some g → g = bm ∨ (bm < g ∧ isRow e A.heap[g]?)) : StepR bm e A B :=
  ⟨hg.os, hg.tape, hg.output, hg.size, fun k hk h1 => hg.block k hk (fun e' => by
    rcases hr k e'.symm with h | ⟨h, h2⟩
    · rcases h1 with h1 | ⟨h1, _⟩
      · omega
      · exact h1 h
    · rcases h1 with h1 | ⟨_, h1⟩
      · omega
      · exact h1 h2)⟩
theorem StepR.alloc {bm : Nat} {e : TypeId} (A : World) (o : Obj) : StepR bm e A (A.alloc o) := StepR.of_grown (World.grownBy_alloc A o none) (fun g h => by cases h)
structure NxR (W : World) (P : Program) (k m : TypeId) (hi bs bx bn N : Nat) (start : ByteArray) (gn : ByteArray → Option Value) (Ln : ByteArray → List ByteArray) : Prop where
  s : W.heap[bs]? = some (.cells #[.string start] k (0, 0))
  x : W.heap[bx]? = some (.cells #[.map (some bn)] m (0, 0))
  lt : bn < hi
  map : Rm W P k bn N gn
  rows : ∀ s, ∃ A c, (gn s).getD (.slice none 0 0) = .slice A (Ln s).length c ∧ Sl W hi 1 A (Ln s).length (strs (Ln s)) ∧ (Ln s).length ≤ c ∧ c ≤ maxLen
theorem Rm.block {w w' : World} {P : Program} {k : TypeId} {b N : Nat} {g : ByteArray → Option Value} (h : Rm w P k b N g) (hb : w'.heap[b]? = w.heap[b]?) : Rm w' P k b N g := by
  obtain ⟨D, ⟨es, clock, h1, h2⟩, h3⟩ := h
  exact ⟨D, ⟨es, clock, hb.trans h1, h2⟩, h3⟩
theorem NxR.keep {W W' : World} {P : Program} {k m : TypeId} {hi bs bx bn N : Nat} {start : ByteArray} {gn : ByteArray → Option Value} {Ln : ByteArray → List ByteArray} (h : NxR W P k m hi bs bx bn N start gn Ln)
    (hk : ∀ j, (j < hi ∨ j = bs ∨ j = bx) → W'.heap[j]? = W.heap[j]?) : NxR W' P k m hi bs bx bn N start gn Ln :=
  ⟨(hk bs (by simp)).trans h.s, (hk bx (by simp)).trans h.x, h.lt, h.map.block (hk bn (.inl h.lt)), fun s => by
    obtain ⟨A, c, h1, h2, h3⟩ := h.rows s
    exact ⟨A, c, h1, h2.keep fun p hp => World.cell?_of_block (hk p.block (.inl hp)), h3⟩⟩
theorem NxR.step {W W' : World} {P : Program} {k m e : TypeId} {hi bs bx bn N bm : Nat} {start : ByteArray} {gn : ByteArray → Option Value} {Ln : ByteArray → List ByteArray} (h : NxR W P k m hi bs bx bn N start gn Ln)
    (hs : StepR bm e W W') (h1 : hi ≤ bm) (h2 : bs < bm) (h3 : bx < bm) (hz : bm ≤ W.heap.size) : NxR W' P k m hi bs bx bn N start gn Ln :=
  h.keep fun j hj => by
    have : j < bm := by omega
    exact hs.block j (by omega) (.inl this)
theorem NxR.round {W W' : World} {P : Program} {k m e : TypeId} {hi bs bx bn N bm : Nat} {start : ByteArray} {gn : ByteArray → Option Value} {Ln : ByteArray → List ByteArray} (h : NxR W P k m hi bs bx bn N start gn Ln)
    (hs : KeepR bm e (fun j => j < hi ∨ j = bs ∨ j = bx) W W') (h1 : hi ≤ bm) (h2 : bs < bm) (h3 : bx < bm) (hz : bm ≤ W.heap.size) : NxR W' P k m hi bs bx bn N start gn Ln :=
  h.keep fun j hj => hs.block j (by omega) (.inr (.inr hj))
end Go.Proofs.YtddlohbhchjjhaaGreatDoor

namespace Go.Proofs.YtddlohbhchjjhaaGreatDoor
open Go.RowKit Go.Shelf
attribute [local go_sem] Oper.semAt_some

def Run (s : ByteArray) (p : UInt8 → Prop) (a e : Nat) : Prop := a < e ∧ e ≤ s.size ∧ (∀ j c, a ≤ j → j < e → (bl s)[j]? = some c → p c) ∧ ∀ c, (bl s)[e]? = some c → ¬ p c
theorem bl_len (s : ByteArray) : (bl s).length = s.size := (size_len s).symm
theorem Run.uniq {s : ByteArray} {p : UInt8 → Prop} {a e f : Nat} (h : Run s p a e) (g : Run s p a f) : e = f := by
  have hl := bl_len s
  rcases Nat.lt_trichotomy e f with hlt | he | hlt
  · have hf := g.2.1
    have hx : (bl s)[e]? = some ((bl s)[e]'(by omega)) := List.getElem?_eq_getElem _
    exact absurd (g.2.2.1 e _ (by have := h.1; omega) hlt hx) (h.2.2.2 _ hx)
  · exact he
  · have hf := h.2.1
    have hx : (bl s)[f]? = some ((bl s)[f]'(by omega)) := List.getElem?_eq_getElem _
    exact absurd (h.2.2.1 f _ (by have := g.1; omega) hlt hx) (g.2.2.2 _ hx)
inductive WdF (s : ByteArray) : Nat → List (ByteArray × Nat) → Prop
  | done {a : Nat} : s.size ≤ a → WdF s a []
  | blank {a : Nat} {c : UInt8} {ws : List (ByteArray × Nat)} : (bl s)[a]? = some c → (c = 32 ∨ c = 10) → WdF s (a + 1) ws → WdF s a ws
  | note {a e : Nat} {ws : List (ByteArray × Nat)} : (bl s)[a]? = some 35 → Run s (fun c => c ≠ 10) a e → WdF s e ws → WdF s a ws
  | word {a e : Nat} {c : UInt8} {ws : List (ByteArray × Nat)} : (bl s)[a]? = some c → c ≠ 32 → c ≠ 10 → c ≠ 35 → Run s (fun c => c ≠ 32 ∧ c ≠ 10) a e → WdF s e ws → WdF s a ((s.extract a e, a) :: ws)
theorem WdF.uniq {s : ByteArray} {a : Nat} {ws vs : List (ByteArray × Nat)} (h : WdF s a ws) : WdF s a vs → ws = vs := by
  induction h generalizing vs with
  | done h =>
    have hn : (bl s)[_]? = none := List.getElem?_eq_none (by rw [bl_len]; exact h)
    intro g
    cases g with
    | done _ => rfl
    | blank h1 _ _ => rw [hn] at h1; cases h1
    | note h1 _ _ => rw [hn] at h1; cases h1
    | word h1 _ _ _ _ _ => rw [hn] at h1; cases h1
  | blank h1 h2 _ ih =>
    intro g
    cases g with
    | done h => rw [List.getElem?_eq_none (by rw [bl_len]; exact h)] at h1; cases h1
    | blank _ _ g3 => exact ih g3
    | note g1 _ _ => rw [h1] at g1; cases g1; rcases h2 with h2 | h2 <;> cases h2
    | word g1 g2 g3 _ _ _ => rw [h1] at g1; cases g1; rcases h2 with h2 | h2; exact absurd h2 g2; exact absurd h2 g3
  | note h1 h2 _ ih =>
    intro g
    cases g with
    | done h => rw [List.getElem?_eq_none (by rw [bl_len]; exact h)] at h1; cases h1
    | blank g1 g2 _ => rw [h1] at g1; cases g1; rcases g2 with g2 | g2 <;> cases g2
    | note _ g2 g3 => obtain rfl := h2.uniq g2; exact ih g3
    | word g1 _ _ g4 _ _ => rw [h1] at g1; cases g1; exact absurd rfl g4
  | word h1 h2 h3 h4 h5 _ ih =>
    intro g
    cases g with
    | done h => rw [List.getElem?_eq_none (by rw [bl_len]; exact h)] at h1; cases h1
    | blank g1 g2 _ => rw [h1] at g1; cases g1; rcases g2 with g2 | g2; exact absurd g2 h2; exact absurd g2 h3
    | note g1 _ _ => rw [h1] at g1; cases g1; exact absurd rfl h4
    | word _ _ _ _ g5 g6 => obtain rfl := h5.uniq g5; rw [ih g6]
structure WdP (s : ByteArray) (a : Nat) (pre : List (ByteArray × Nat)) : Prop where
  le : a ≤ s.size
  len : pre.length ≤ a
  sz : ∀ x ∈ pre, x.1.size ≤ s.size ∧ x.2 ≤ s.size
  rest : ∀ ws, WdF s a ws → WdF s 0 (pre ++ ws)
theorem WdP.start (s : ByteArray) : WdP s 0 [] := ⟨Nat.zero_le _, Nat.zero_le _, (fun x h => by cases h), fun ws h => h⟩
theorem WdP.blank {s : ByteArray} {a : Nat} {c : UInt8} {pre : List (ByteArray × Nat)} (h : WdP s a pre) (h1 : (bl s)[a]? = some c) (h2 : c = 32 ∨ c = 10) : WdP s (a + 1) pre := by
  have hl := (List.getElem?_eq_some_iff.1 h1).1
  rw [bl_len] at hl
  exact ⟨hl, Nat.le_succ_of_le h.len, h.sz, fun ws hw => h.rest ws (.blank h1 h2 hw)⟩
theorem WdP.note {s : ByteArray} {a e : Nat} {pre : List (ByteArray × Nat)} (h : WdP s a pre) (h1 : (bl s)[a]? = some 35) (h2 : Run s (fun c => c ≠ 10) a e) : WdP s e pre :=
  ⟨h2.2.1, Nat.le_trans h.len (Nat.le_of_lt h2.1), h.sz, fun ws hw => h.rest ws (.note h1 h2 hw)⟩
theorem WdP.word {s : ByteArray} {a e : Nat} {c : UInt8} {pre : List (ByteArray × Nat)} (h : WdP s a pre) (h1 : (bl s)[a]? = some c) (h2 : c ≠ 32) (h3 : c ≠ 10) (h4 : c ≠ 35) (h5 : Run s (fun c => c ≠ 32 ∧ c ≠ 10) a e) : WdP s e (pre ++ [(s.extract a e, a)]) :=
  ⟨h5.2.1, by have := h.len; have := h5.1; simp; omega, fun x hx => by
    rcases List.mem_append.1 hx with hx | hx
    · exact h.sz x hx
    · rw [List.mem_singleton.1 hx]; simp; have := h5.1; have := h5.2.1; omega, fun ws hw => by
    rw [List.append_assoc]; exact h.rest _ (.word h1 h2 h3 h4 h5 hw)⟩
theorem WdP.end_ {s : ByteArray} {a : Nat} {pre : List (ByteArray × Nat)} (h : WdP s a pre) (ha : s.size ≤ a) : WdF s 0 pre := by
  have := h.rest [] (.done ha); rwa [List.append_nil] at this
def KeepWd (bs : Nat) (A B : World) : Prop := B.heap[bs]? = A.heap[bs]?
def wdV (x : ByteArray × Nat) : Array Value := #[.agg #[.string x.1, .int .i64 (x.2 : Int)]]
theorem byte_ne {c d : UInt8} {k : Int} (hk : (d.toNat : Int) = k) (h : c ≠ d) : ((c.toNat : Int) == k) = false := by
  rw [beq_eq_false_iff_ne]; intro e
  apply h
  apply UInt8.toNat_inj.1
  omega
theorem byte_eq {c d : UInt8} {k : Int} (hk : (d.toNat : Int) = k) (h : c = d) : ((c.toNat : Int) == k) = true := by rw [h, hk]; simp

set_option maxRecDepth 100000 in
set_option maxHeartbeats 4000000 in
theorem words1_st (n bs hz : Nat) (hn : 1 ≤ n) (s : ByteArray) (w : World) (hs : s.size ≤ 1000000) (h0 : w.heap[bs]? = some (.cells #[.string s] 9 (0, 0))) :
    SeqT Fence.wide n Tryz.prog 187 #[.pointer (some ⟨bs, 0, none⟩)] wdV (KeepWd bs) (fun A B => B = A)
      (fun pre => ∃ a, WdP s a pre) (fun xs => WdF s 0 xs) (fun pre => ∃ a, WdP s a pre) hz w := fun l J Jx W hW hWz hJ hY hJ0 => by
  have g0 : W.heap[bs]? = some (.cells #[.string s] 9 (0, 0)) := (hW.block bs (Array.getElem?_eq_some_iff.1 h0).1).trans h0
  clear hW h0 hWz
  have G0 := Lib.hid g0; have HY := Lib.hid hY; have HJ0 := Lib.hid hJ0
  clear g0 hJ hY hJ0
  refine callsIn_of_wp Tryz.func187 rfl trivial ?_ rfl
  simp only [Tryz.ntmps187, List.size_toArray, List.length_cons, List.length_nil, Nat.reduceAdd, Nat.reduceSub, Array.replicate_succ, Array.replicate_zero, List.push_toArray, List.append_toArray, List.nil_append, List.cons_append]
  gi_wp2_with fail
  gi_loopw [3] (fun q wr => ∃ (a : Nat) (pre : List (ByteArray × Nat)), q = .int .i64 (a : Int) ∧ a ≤ s.size ∧ Hid (WdP s a pre) ∧ Hid (wr.heap[bs]? = some (.cells #[.string s] 9 (0, 0))) ∧ Hid (J pre wr)) (fun q _ => s.size - (intOf q).toNat)
  case atStart => exact ⟨0, [], rfl, Nat.zero_le _, WdP.start s, G0.out, HJ0.out⟩
  case round =>
    obtain ⟨a, pre, rfl, ha, hP, hG, hj⟩ := hrel
    have c0 := cell_of_one hG.out
    by_cases hlt : a < s.size
    · have hlz : (a : Int) < (s.size : Int) := by omega
      have hg := get_data s a hlt
      have HA : Hid ((bl s)[a]? = some s[a]) := hg
      clear hg
      by_cases h32 : s[a] = 32
      · have t1 := byte_eq (c := s[a]) (d := 32) (k := 32) rfl h32
        have HP2 := Lib.hid (hP.out.blank HA.out (.inl h32))
        clear h32
        gi_wp2
        go_roundw
        case rel => exact ⟨a + 1, pre, by go_num, hlt, HP2.out, hG.out, hj.out⟩
        case measure => simp [intOf]; omega
      · have t1 := byte_ne (c := s[a]) (d := 32) (k := 32) rfl h32
        by_cases h10 : s[a] = 10
        · have t2 := byte_eq (c := s[a]) (d := 10) (k := 10) rfl h10
          have HP2 := Lib.hid (hP.out.blank HA.out (.inr h10))
          clear h32 h10
          gi_wp2
          go_roundw
          case rel => exact ⟨a + 1, pre, by go_num, hlt, HP2.out, hG.out, hj.out⟩
          case measure => simp [intOf]; omega
        · have t2 := byte_ne (c := s[a]) (d := 10) (k := 10) rfl h10
          by_cases h35 : s[a] = 35
          · have t3 := byte_eq (c := s[a]) (d := 35) (k := 35) rfl h35
            have HA35 : Hid ((bl s)[a]? = some 35) := by rw [← h35]; exact HA.out
            have H10 := Lib.hid h10
            obtain ⟨wo, hwo⟩ : ∃ wo, wo = wr := ⟨_, rfl⟩
            subst hwo
            clear h32 h10 h35
            gi_wp2
            gi_loopw [3] (fun q wr => ∃ e : Nat, q = .int .i64 (e : Int) ∧ a ≤ e ∧ e ≤ s.size ∧ Hid (∀ j c, a ≤ j → j < e → (bl s)[j]? = some c → c ≠ 10) ∧ wr = wo) (fun q _ => s.size - (intOf q).toNat)
            case atStart => exact ⟨a, rfl, Nat.le_refl _, ha, fun j c h1 h2 => absurd h1 (by omega), rfl⟩
            case round =>
              obtain ⟨e, rfl, hae, hes, hR, rfl⟩ := hrel
              have fin : ∀ (_ : ∀ c, (bl s)[e]? = some c → ¬ c ≠ 10), Hid (Run s (fun c => c ≠ 10) a e) := fun hf => by
                refine ⟨?_, hes, hR.out, hf⟩
                rcases Nat.eq_or_lt_of_le hae with h | h
                · subst h; exact absurd H10.out (hf _ HA.out)
                · exact h
              by_cases hel : e < s.size
              · have hez : (e : Int) < (s.size : Int) := by omega
                have hg := get_data s e hel
                have HE : Hid ((bl s)[e]? = some s[e]) := hg
                clear hg
                by_cases k10 : s[e] = 10
                · have t4 := byte_eq (c := s[e]) (d := 10) (k := 10) rfl k10
                  have t4' : ((s[e].toNat : Int) != 10) = false := by unfold bne; rw [t4]; rfl
                  have HRn := fin (fun c hc => by rw [HE.out] at hc; cases hc; rw [k10]; simp)
                  have HP2 := Lib.hid (hP.out.note HA35.out HRn.out)
                  clear k10 fin
                  gi_wp2
                  go_roundw
                  case rel => exact ⟨e, pre, rfl, hes, HP2.out, hG.out, hj.out⟩
                  case measure => have := HRn.out.1; simp [intOf]; omega
                · have t4 := byte_ne (c := s[e]) (d := 10) (k := 10) rfl k10
                  have t4' : ((s[e].toNat : Int) != 10) = true := by unfold bne; rw [t4]; rfl
                  have HR2 : Hid (∀ j c, a ≤ j → j < e + 1 → (bl s)[j]? = some c → c ≠ 10) := fun j c h1 h2 h3 => by
                    by_cases ej : j = e
                    · subst ej; rw [HE.out] at h3; cases h3; exact k10
                    · exact hR.out j c h1 (by omega) h3
                  clear k10 fin
                  gi_wp2
                  go_roundw
                  case rel => exact ⟨e + 1, by go_num, by omega, hel, HR2.out, trivial⟩
                  case measure => simp [intOf]; omega
              · have hez : ¬ (e : Int) < (s.size : Int) := by omega
                have HRn := fin (fun c hc => by rw [List.getElem?_eq_none (by rw [bl_len]; omega)] at hc; cases hc)
                have HP2 := Lib.hid (hP.out.note HA35.out HRn.out)
                clear fin
                gi_wp2
                go_roundw
                case rel => exact ⟨e, pre, rfl, hes, HP2.out, hG.out, hj.out⟩
                case measure => have := HRn.out.1; simp [intOf]; omega
          · have t3 := byte_ne (c := s[a]) (d := 35) (k := 35) rfl h35
            have H32 := Lib.hid h32; have H10 := Lib.hid h10; have H35 := Lib.hid h35
            obtain ⟨wo, hwo⟩ : ∃ wo, wo = wr := ⟨_, rfl⟩
            subst hwo
            clear h32 h10 h35
            gi_wp2
            gi_loopw [4] (fun q wr => ∃ e : Nat, q = .int .i64 (e : Int) ∧ a ≤ e ∧ e ≤ s.size ∧ Hid (∀ j c, a ≤ j → j < e → (bl s)[j]? = some c → c ≠ 32 ∧ c ≠ 10) ∧ wr = wo) (fun q _ => s.size - (intOf q).toNat)
            case atStart => exact ⟨a, rfl, Nat.le_refl _, ha, fun j c h1 h2 => absurd h1 (by omega), rfl⟩
            case round =>
              obtain ⟨e, rfl, hae, hes, hR, rfl⟩ := hrel
              have fin : ∀ (_ : ∀ c, (bl s)[e]? = some c → ¬ (c ≠ 32 ∧ c ≠ 10)), Hid (Run s (fun c => c ≠ 32 ∧ c ≠ 10) a e) := fun hf => by
                refine ⟨?_, hes, hR.out, hf⟩
                rcases Nat.eq_or_lt_of_le hae with h | h
                · subst h; exact absurd ⟨H32.out, H10.out⟩ (hf _ HA.out)
                · exact h
              have stay : ∀ (hel : e < s.size) (_ : s[e] ≠ 32) (_ : s[e] ≠ 10), Hid (∀ j c, a ≤ j → j < e + 1 → (bl s)[j]? = some c → c ≠ 32 ∧ c ≠ 10) := fun hel k1 k2 j c h1 h2 h3 => by
                by_cases ej : j = e
                · subst ej
                  have hg : (bl s)[j]? = some s[j] := get_data s j hel
                  rw [hg] at h3; cases h3; exact ⟨k1, k2⟩
                · exact hR.out j c h1 (by omega) h3
              by_cases hel : e < s.size
              · have hez : (e : Int) < (s.size : Int) := by omega
                have hg := get_data s e hel
                have HE : Hid ((bl s)[e]? = some s[e]) := hg
                clear hg
                by_cases k32 : s[e] = 32
                · have t4 := byte_eq (c := s[e]) (d := 32) (k := 32) rfl k32
                  have t4' : ((s[e].toNat : Int) != 32) = false := by unfold bne; rw [t4]; rfl
                  have HRn := fin (fun c hc => by rw [HE.out] at hc; cases hc; rw [k32]; simp)
                  have HP2 := Lib.hid (hP.out.word HA.out H32.out H10.out H35.out HRn.out)
                  have haz : (a : Int) ≤ (e : Int) := by omega
                  have hez2 : (e : Int) ≤ (s.size : Int) := by omega
                  have hlt2 := HRn.out.1
                  obtain ⟨fn, tmps, assign, body, hy, hR'⟩ := HY.out pre (s.extract a e, a) wr ⟨e, HP2.out⟩ hj.out
                  simp only [wdV] at hy hR'
                  have HR' := Lib.hid hR'
                  clear hR' fin stay k32
                  gi_wp2
                  refine HR'.out.mono ?_
                  rintro e' W3 (⟨rfl, hJ3, hK3⟩ | ⟨rfl, hJx3⟩)
                  · have HG3 : Hid (W3.heap[bs]? = some (.cells #[.string s] 9 (0, 0))) := Eq.trans hK3 hG.out
                    have HJ3 := Lib.hid hJ3
                    clear hJ3 hK3
                    gi_wp2
                    go_roundw
                    case rel => exact ⟨e, pre ++ [(s.extract a e, a)], rfl, hes, HP2.out, HG3.out, HJ3.out⟩
                    case measure => simp [intOf]; omega
                  · gi_wp2
                    refine bodyPost_ret (results_none rfl _ _ _) rfl ?_
                    exact ⟨⟨_, rfl⟩, .inr ⟨_, ⟨e, HP2.out⟩, hJx3⟩⟩
                · have t4 := byte_ne (c := s[e]) (d := 32) (k := 32) rfl k32
                  have t4' : ((s[e].toNat : Int) != 32) = true := by unfold bne; rw [t4]; rfl
                  by_cases k10 : s[e] = 10
                  · have t5 := byte_eq (c := s[e]) (d := 10) (k := 10) rfl k10
                    have t5' : ((s[e].toNat : Int) != 10) = false := by unfold bne; rw [t5]; rfl
                    have HRn := fin (fun c hc => by rw [HE.out] at hc; cases hc; rw [k10]; simp)
                    have HP2 := Lib.hid (hP.out.word HA.out H32.out H10.out H35.out HRn.out)
                    have haz : (a : Int) ≤ (e : Int) := by omega
                    have hez2 : (e : Int) ≤ (s.size : Int) := by omega
                    have hlt2 := HRn.out.1
                    obtain ⟨fn, tmps, assign, body, hy, hR'⟩ := HY.out pre (s.extract a e, a) wr ⟨e, HP2.out⟩ hj.out
                    simp only [wdV] at hy hR'
                    have HR' := Lib.hid hR'
                    clear hR' fin stay k10 k32
                    gi_wp2
                    refine HR'.out.mono ?_
                    rintro e' W3 (⟨rfl, hJ3, hK3⟩ | ⟨rfl, hJx3⟩)
                    · have HG3 : Hid (W3.heap[bs]? = some (.cells #[.string s] 9 (0, 0))) := Eq.trans hK3 hG.out
                      have HJ3 := Lib.hid hJ3
                      clear hJ3 hK3
                      gi_wp2
                      go_roundw
                      case rel => exact ⟨e, pre ++ [(s.extract a e, a)], rfl, hes, HP2.out, HG3.out, HJ3.out⟩
                      case measure => simp [intOf]; omega
                    · gi_wp2
                      refine bodyPost_ret (results_none rfl _ _ _) rfl ?_
                      exact ⟨⟨_, rfl⟩, .inr ⟨_, ⟨e, HP2.out⟩, hJx3⟩⟩
                  · have t5 := byte_ne (c := s[e]) (d := 10) (k := 10) rfl k10
                    have t5' : ((s[e].toNat : Int) != 10) = true := by unfold bne; rw [t5]; rfl
                    have HR2 := stay hel k32 k10
                    clear k10 k32 fin stay
                    gi_wp2
                    go_roundw
                    case rel => exact ⟨e + 1, by go_num, by omega, hel, HR2.out, trivial⟩
                    case measure => simp [intOf]; omega
              · have hez : ¬ (e : Int) < (s.size : Int) := by omega
                have HRn := fin (fun c hc => by rw [List.getElem?_eq_none (by rw [bl_len]; omega)] at hc; cases hc)
                have HP2 := Lib.hid (hP.out.word HA.out H32.out H10.out H35.out HRn.out)
                have haz : (a : Int) ≤ (e : Int) := by omega
                have hez2 : (e : Int) ≤ (s.size : Int) := by omega
                have hlt2 := HRn.out.1
                obtain ⟨fn, tmps, assign, body, hy, hR'⟩ := HY.out pre (s.extract a e, a) wr ⟨e, HP2.out⟩ hj.out
                simp only [wdV] at hy hR'
                have HR' := Lib.hid hR'
                clear hR' fin stay 
                gi_wp2
                refine HR'.out.mono ?_
                rintro e' W3 (⟨rfl, hJ3, hK3⟩ | ⟨rfl, hJx3⟩)
                · have HG3 : Hid (W3.heap[bs]? = some (.cells #[.string s] 9 (0, 0))) := Eq.trans hK3 hG.out
                  have HJ3 := Lib.hid hJ3
                  clear hJ3 hK3
                  gi_wp2
                  go_roundw
                  case rel => exact ⟨e, pre ++ [(s.extract a e, a)], rfl, hes, HP2.out, HG3.out, HJ3.out⟩
                  case measure => simp [intOf]; omega
                · gi_wp2
                  refine bodyPost_ret (results_none rfl _ _ _) rfl ?_
                  exact ⟨⟨_, rfl⟩, .inr ⟨_, ⟨e, HP2.out⟩, hJx3⟩⟩
    · have hlz : ¬ (a : Int) < (s.size : Int) := by omega
      have HE := Lib.hid (hP.out.end_ (by omega))
      gi_wp2
      go_end0
      exact ⟨⟨_, rfl⟩, .inl ⟨pre, HE.out, hj.out⟩⟩
end Go.Proofs.YtddlohbhchjjhaaGreatDoor

namespace Go.Proofs.YtddlohbhchjjhaaGreatDoor
open Go.RowKit
variable {F : Fence} {n : Nat} {P : Program}

theorem wpIn_rangeTA {α : Type} {g : Operand} {ps : Array Tmp} {assign body : Code} {Q : Exit → Act → World → Prop} {a : Act} {w : World}
    (hro : F.round = none) (h1 : 1 ≤ n) {gf : Nat} {lb : Array Value} (hg : a.eval g = .func (.func gf) #[] lb) (hFg : F.fn gf) (eg : ∀ args w, (callFunc gf args).run P w = .ok (.enter gf args) w)
    {encs : α → Array Value} {Kp St : World → World → Prop} {Pf S Sp : List α → Prop} {w0 : World} (hseq : SeqT F (n - 1) P gf lb encs Kp St Pf S Sp (w.heap.size + 2) w0)
    (hKt : ∀ {A B C : World}, Kp A B → Kp B C → Kp A C) (hKb : ∀ (W : World) (l : Nat) (r : Loop) (o' : Obj), w.heap.size + 1 = l → W.heap[l]? = some (.loop r) → Kp W (W.putObj l o')) (hSo : ∀ A B, St A B → w.heap.size + 2 ≤ A.heap.size → Rec2 w.heap.size A B) (hb0 : Below w0.heap.size w0 w) (hps : ∀ x, (encs x).size = ps.size)
    (I : List α → World → Prop) (Ix : Code → List α → World → Prop) (hI : OwnFrom w.heap.size I) (hIx : ∀ c, OwnFrom w.heap.size (Ix c)) (hIS : ∀ pre A B, I pre A → St A B → I pre B) (h0 : I [] w) (As : α → Nat → World → Prop) (hAp : ∀ x b W l (r : Loop) (o : Obj), W.heap[l]? = some (.loop r) → As x b W → As x b (W.putObj l o)) (a₁ : α → Nat → Act)
    (hassign : ∀ (l : Nat) (pre : List α) (x : α) (W : World) (K : Act → World → Prop), w.heap.size + 2 ≤ W.heap.size → I pre W → (∀ b W', Rec2 w.heap.size W W' → Kp W W' → I pre W' → As x b W' → K (a₁ x b) W') →
      assign.wpIn (F.inRound l) (n - 1 - 1) P (Exit.then K (fun _ _ _ => False)) { tmps := (ps.zip (encs x)).foldl (fun t (p, v) => t.setIfInBounds p v) a.tmps, defers := [] } W)
    (hbody : ∀ (l : Nat) (pre : List α) (x : α) (b : Nat) (W : World), Pf (pre ++ [x]) → w.heap.size + 2 ≤ W.heap.size → I pre W → As x b W → body.wpIn (F.inRound l) (n - 1 - 1) P (ownPostT w.heap.size Kp I Ix (pre ++ [x]) W) (a₁ x b) W)
    (hdone : ∀ (D : Nat) (xs : List α) (W : World), w.heap.size ≤ D → S xs → I xs W → W.heap[D]? = some (.deferred (some [])) → Q .normal { a with defers := { target := .collected D, args := #[] } :: a.defers } W)
    (hstop : ∀ (D : Nat) (c : Code) (pre : List α) (W : World), w.heap.size ≤ D → Sp pre → Ix c pre W → W.heap[D]? = some (.deferred (some [])) → c.wpIn F n P Q { a with defers := { target := .collected D, args := #[] } :: a.defers } W) :
    (Code.rangeFunc g ps assign body).wpIn F n P Q a w := by
  refine wpIn_rangeFunc ?_
  intro fn hfn
  rw [hro]
  -- the loop's record in block L, the block of its deferred calls in block D
  obtain ⟨D, hD⟩ : ∃ D, w.heap.size = D := ⟨_, rfl⟩
  obtain ⟨rec, hrec⟩ : ∃ rec : LoopState → Option Code → Loop, rec = fun st pe => { state := st, pending := pe, fn, tmps := a.tmps, params := ps, assign, body, defers := D } := ⟨_, rfl⟩
  obtain ⟨W1, hW1⟩ : ∃ W1, (w.alloc (.deferred (some []))).alloc (.loop (rec .ready none)) = W1 := ⟨_, rfl⟩
  have hL1 : W1.heap[D + 1]? = some (.loop (rec .ready none)) := by
    rw [← hW1, ← hD]; have := World.alloc_heap_new (w.alloc (.deferred (some []))) (.loop (rec .ready none)); rwa [World.size_alloc] at this
  have hK1 : W1.heap[D]? = some (.deferred (some [])) := by
    rw [← hW1, ← hD]; exact (Below.heap_alloc _ _ _ (by simp)).trans (World.alloc_heap_new w _)
  have hI1 : I [] W1 := by rw [← hW1]; exact hI.alloc _ (hI.alloc _ h0)
  have hb1 : Below w0.heap.size w0 W1 := by
    rw [← hW1]; exact hb0.trans ((((Below.refl _ w).alloc (Nat.le_refl _) _).alloc (by simp) _).mono hb0.size)
  refine ⟨D + 1, [{ target := .collected D, args := #[] }], W1, { target := .fn (.func gf) lb, args := #[.func (.yield (D + 1)) #[] #[]] }, W1, gf,
    #[.func (.yield (D + 1)) #[] #[]] ++ lb, W1, ?_, ?_, ?_, ?_, fun _ => h1, ?_⟩
  · rw [← hW1, hrec, ← hD]; exact run_enterLoop_outer _ _ _ _ _
  · simp only [resolve, hg]
    simp [go_sem]
  · intro f' hf'; simp [Target.leads] at hf'; subst hf'; exact hFg
  · simp [invoke, go_sem, eg]
  · refine (hseq (D + 1)
      (fun pre W => I pre W ∧ W.heap[D + 1]? = some (.loop (rec .ready none)) ∧ W.heap[D]? = some (.deferred (some [])))
      (fun pre W => ∃ c, Ix c pre W ∧ W.heap[D + 1]? = some (.loop (rec .done (some c))) ∧ W.heap[D]? = some (.deferred (some [])))
      W1 hb1 (by rw [← hW1]; simp)
      (fun pre A B hs hst => by
        have hz2 := (Array.getElem?_eq_some_iff.1 hs.2.1).1
        have hr := hSo A B hst (by omega)
        rw [hD] at hr
        exact ⟨hIS pre A B hs.1 hst, hr.2.trans hs.2.1, hr.1.trans hs.2.2⟩)
      ?_ ⟨hI1, hL1, hK1⟩).mono ?_
    · rintro pre x W hpf ⟨hi, hl, hk⟩
      have hlt : D + 1 < W.heap.size := (Array.getElem?_eq_some_iff.1 hl).1
      have hy := run_yield (P := P) (args := encs x) hl (by rw [hrec]; exact hps x)
      rw [hrec] at hy
      refine ⟨fn, _, assign, body, hy, roundIn_of_wpIn hfn (hassign _ pre x W _ (by omega) hi fun b V hrv hkv hiv hav => ?_)⟩
      rw [hD] at hrv
      have hlv : V.heap[D + 1]? = some (.loop (rec .ready none)) := hrv.2.trans hl
      have hkd : V.heap[D]? = some (.deferred (some [])) := hrv.1.trans hk
      have hltv : D + 1 < V.heap.size := (Array.getElem?_eq_some_iff.1 hlv).1
      refine ⟨_, run_beginRound hlv (by rw [hrec]), ?_⟩
      obtain ⟨W2, hW2⟩ : ∃ W2, V.putObj (D + 1) (.loop { rec .ready none with state := .busy }) = W2 := ⟨_, rfl⟩
      have hl2 : W2.heap[D + 1]? = some (.loop { rec .ready none with state := .busy }) := by rw [← hW2]; exact World.putObj_heap_same hltv
      have hk2 : W2.heap[D]? = some (.deferred (some [])) := by rw [← hW2]; exact (World.putObj_heap_other (by omega)).trans hkd
      have hw2 : Kp W W2 := by rw [← hW2]; exact hKt hkv (hKb _ _ _ _ (by omega) hlv)
      have hi2 : I pre W2 := by rw [← hW2]; exact hI.putObj _ hiv (by omega) hlv rfl
      have ha2 : As x b W2 := by rw [← hW2]; exact hAp _ _ _ _ _ _ hlv hav
      rw [hW2]
      refine wpIn_mono (hbody _ pre x b _ hpf (by have := (Array.getElem?_eq_some_iff.1 hl2).1; omega) hi2 ha2) ?_
      have fin : ∀ (jump : Option Code) (W3 : World), Rec2 w.heap.size W2 W3 →
          (Instr.endRound (D + 1) jump).run P W3 = .ok (.bool jump.isNone) (W3.putObj (D + 1) (.loop (rec (if jump.isNone then .ready else .done) jump))) ∧
          W3.heap[D + 1]? = some (.loop { rec .ready none with state := .busy }) ∧
          (W3.putObj (D + 1) (.loop (rec (if jump.isNone then .ready else .done) jump))).heap[D + 1]? = some (.loop (rec (if jump.isNone then .ready else .done) jump)) ∧
          (W3.putObj (D + 1) (.loop (rec (if jump.isNone then .ready else .done) jump))).heap[D]? = some (.deferred (some [])) := fun jump W3 hk3 => by
        rw [hD] at hk3
        have hl3 := hk3.2.trans hl2
        have := run_endRound (P := P) jump hl3
        rw [hrec] at this ⊢
        exact ⟨this, by rw [hrec] at hl3; exact hl3, World.putObj_heap_same (Array.getElem?_eq_some_iff.1 hl3).1, (World.putObj_heap_other (by omega)).trans (hk3.1.trans hk2)⟩
      rintro e a3 W3 hp
      cases e with
      | normal =>
        obtain ⟨hk3, hkp3, hi3⟩ := hp
        obtain ⟨hr, hl3, hl4, hk4⟩ := fin none W3 hk3
        exact ⟨_, _, hr, .inl ⟨rfl, ⟨hI.putObj _ hi3 (by omega) hl3 rfl, hl4, hk4⟩, hKt (hKt hw2 hkp3) (hKb _ _ _ _ (by omega) hl3)⟩⟩
      | ret =>
        obtain ⟨hk3, hi3⟩ := hp
        obtain ⟨hr, hl3, hl4, hk4⟩ := fin (some .ret) W3 hk3
        exact ⟨_, _, hr, .inr ⟨rfl, .ret, (hIx _).putObj _ hi3 (by omega) hl3 rfl, hl4, hk4⟩⟩
      | exit id =>
        obtain ⟨hk3, hi3⟩ := hp
        obtain ⟨hr, hl3, hl4, hk4⟩ := fin (some (.exit id)) W3 hk3
        exact ⟨_, _, hr, .inr ⟨rfl, .exit id, (hIx _).putObj _ hi3 (by omega) hl3 rfl, hl4, hk4⟩⟩
      | goto t =>
        obtain ⟨hk3, hi3⟩ := hp
        obtain ⟨hr, hl3, hl4, hk4⟩ := fin (some (.goto t)) W3 hk3
        exact ⟨_, _, hr, .inr ⟨rfl, .goto t, (hIx _).putObj _ hi3 (by omega) hl3 rfl, hl4, hk4⟩⟩
      | panic ch => exact hp.elim
      | outgrown => exact hp.elim
    · rintro e W2 ⟨⟨v, rfl⟩, (⟨xs, hS, hi, hl, hk⟩ | ⟨pre, hSp, c, hi, hl, hk⟩)⟩
      · exact ⟨none, _, by have := run_endLoop (P := P) hl (by rw [hrec]; simp); rw [hrec] at this; exact this, hdone _ xs _ (by omega) hS (hI.putObj _ hi (by omega) hl rfl) ((World.putObj_heap_other (by omega)).trans hk)⟩
      · exact ⟨some c, _, by have := run_endLoop (P := P) hl (by rw [hrec]; simp); rw [hrec] at this; exact this, hstop _ c pre _ (by omega) hSp ((hIx c).putObj _ hi (by omega) hl rfl) ((World.putObj_heap_other (by omega)).trans hk)⟩
end Go.Proofs.YtddlohbhchjjhaaGreatDoor

namespace Go.Proofs.YtddlohbhchjjhaaGreatDoor

section
variable {α : Type} {nx : α → List α} {s : α}
def Par (nx : α → List α) (s : α) (pre : List (α × Nat)) : Prop := ∀ y ∈ pre, ∃ p, y.1 ∈ nx p.1 ∧ y.2 = p.2 + 1 ∧ (p = (s, 0) ∨ p ∈ pre)
def Few (pre : List (α × Nat)) : Prop := ∀ y ∈ pre, y.2 ≤ pre.length
def Lst (nx : α → List α) (s : α) (pre : List (α × Nat)) : Prop := ∀ y ∈ pre, ∃ k, y.2 = k + 1 ∧ Dst nx k s y.1
structure Bfs (nx : α → List α) (s : α) (pre todo : List (α × Nat)) : Prop where
  srch : Srch nx s (pre.map Prod.fst) (todo.map Prod.fst)
  par : Par nx s pre
  few : Few pre
  que : ∀ x ∈ todo, x = (s, 0) ∨ x ∈ pre
  fst : (pre = [] ∧ todo = [(s, 0)]) ∨ ((∀ y ∈ nx s, y ∈ pre.map Prod.fst) ∧ ∀ x ∈ todo, x.2 ≠ 0)
  lst : Lst nx s pre
  mono : todo.Pairwise (fun a b => a.2 ≤ b.2)
  near : ∀ x ∈ todo, ∀ y ∈ todo, y.2 ≤ x.2 + 1
structure BfsL (nx : α → List α) (s : α) (pre todo : List (α × Nat)) (p : α × Nat) (ys : List α) : Prop where
  look : Look nx s (pre.map Prod.fst) (todo.map Prod.fst) p.1 ys
  par : Par nx s pre
  few : Few pre
  que : ∀ x ∈ todo, x = (s, 0) ∨ x ∈ pre
  here : p = (s, 0) ∨ p ∈ pre
  fst : (p.1 = s) ∨ (∀ y ∈ nx s, y ∈ pre.map Prod.fst)
  pos : ∀ x ∈ todo, x.2 ≠ 0
  lst : Lst nx s pre
  mono : todo.Pairwise (fun a b => a.2 ≤ b.2)
  near : ∀ x ∈ todo, p.2 ≤ x.2 ∧ x.2 ≤ p.2 + 1
  lev : ∀ m, m < p.2 → ∀ x, Stp nx m s x → x ∈ pre.map Prod.fst
theorem Bfs.lev {pre todo : List (α × Nat)} {D : Nat} (h : Bfs nx s pre todo) (hD : ∀ x ∈ todo, D ≤ x.2) : ∀ m, m < D → ∀ x, Stp nx m s x → x ∈ pre.map Prod.fst := by
  intro m
  induction m with
  | zero =>
    intro hm x hx
    rcases h.fst with ⟨_, e⟩ | ⟨e, _⟩
    · rw [e] at hD; have := hD (s, 0) (by simp); simp at this; omega
    · exact e x hx
  | succ m ih =>
    rintro hm x ⟨c, hc, hx⟩
    have hcm := ih (by omega) c hc
    rcases h.srch.done c (.inr hcm) with e | e
    · obtain ⟨q, hq, rfl⟩ := List.mem_map.1 e
      have hq2 := hD q hq
      rcases h.que q hq with e2 | e2
      · rw [e2] at hq2; simp at hq2; omega
      · obtain ⟨k, e3, e4⟩ := h.lst q e2
        exact absurd hc (e4.2 m (by omega))
    · exact e x hx
theorem Bfs.start (nx : α → List α) (s : α) : Bfs nx s [] [(s, 0)] :=
  ⟨Srch.start nx s, (fun y h => by cases h), (fun y h => by cases h), fun x h => .inl (List.mem_singleton.1 h), .inl ⟨rfl, rfl⟩, (fun y h => by cases h), List.pairwise_singleton _ _, fun x hx y hy => by rw [List.mem_singleton.1 hx, List.mem_singleton.1 hy]; simp⟩
theorem Bfs.look {pre todo : List (α × Nat)} {p : α × Nat} (h : Bfs nx s pre (p :: todo)) : BfsL nx s pre todo p (nx p.1) := by
  have hl := Srch.look (todo := todo.map Prod.fst) (p := p.1) h.srch
  have hmo := List.pairwise_cons.1 h.mono
  refine ⟨hl, h.par, h.few, fun x hx => h.que x (by simp [hx]), h.que p (by simp), ?_, ?_, h.lst, hmo.2, fun x hx => ⟨hmo.1 x hx, h.near p (by simp) x (by simp [hx])⟩, h.lev fun x hx => by
    rcases List.mem_cons.1 hx with rfl | hx
    · exact Nat.le_refl _
    · exact hmo.1 x hx⟩
  · rcases h.fst with ⟨_, e⟩ | ⟨e, _⟩
    · left; simp at e; rw [e.1]
    · exact .inr e
  · rcases h.fst with ⟨_, e⟩ | ⟨_, e⟩
    · simp at e; rw [e.2]; intro x hx; cases hx
    · exact fun x hx => e x (by simp [hx])
theorem Bfs.pass {pre todo : List (α × Nat)} {p : α × Nat} (h : Bfs nx s pre (p :: todo)) (h1 : p.1 = s) (h2 : p.2 ≠ 0) : Bfs nx s pre todo := by
  rcases h.fst with ⟨_, e⟩ | ⟨e, e2⟩
  · simp at e; rw [e.1] at h2; exact absurd rfl h2
  · exact ⟨Srch.pass (p := p.1) h.srch (by rw [h1]; exact e), h.par, h.few, fun x hx => h.que x (by simp [hx]), .inr ⟨e, fun x hx => e2 x (by simp [hx])⟩, h.lst, (List.pairwise_cons.1 h.mono).2, fun x hx y hy => h.near x (by simp [hx]) y (by simp [hy])⟩
theorem BfsL.skip {pre todo : List (α × Nat)} {p : α × Nat} {y : α} {ys : List α} (h : BfsL nx s pre todo p (y :: ys)) (hy : y ∈ pre.map Prod.fst) : BfsL nx s pre todo p ys :=
  ⟨h.look.skip hy, h.par, h.few, h.que, h.here, h.fst, h.pos, h.lst, h.mono, h.near, h.lev⟩
theorem BfsL.take {pre todo : List (α × Nat)} {p : α × Nat} {y : α} {ys : List α} (h : BfsL nx s pre todo p (y :: ys)) (hy : y ∉ pre.map Prod.fst) : BfsL nx s (pre ++ [(y, p.2 + 1)]) (todo ++ [(y, p.2 + 1)]) p ys := by
  have hm : ∀ l : List (α × Nat), (l ++ [(y, p.2 + 1)]).map Prod.fst = l.map Prod.fst ++ [y] := fun l => by simp
  refine ⟨?_, ?_, ?_, ?_, ?_, ?_, ?_, ?_, ?_, ?_, ?_⟩
  · rw [hm, hm]; exact h.look.take hy
  · intro z hz
    rcases List.mem_append.1 hz with hz | hz
    · obtain ⟨q, h1, h2, h3⟩ := h.par z hz
      refine ⟨q, h1, h2, ?_⟩
      rcases h3 with h3 | h3
      · exact .inl h3
      · exact .inr (List.mem_append_left _ h3)
    · rw [List.mem_singleton.1 hz]
      refine ⟨p, h.look.sub y (by simp), rfl, ?_⟩
      rcases h.here with h3 | h3
      · exact .inl h3
      · exact .inr (List.mem_append_left _ h3)
  · intro z hz
    rw [List.length_append]
    rcases List.mem_append.1 hz with hz | hz
    · have := h.few z hz; omega
    · rw [List.mem_singleton.1 hz]
      rcases h.here with h3 | h3
      · rw [h3]; simp
      · have := h.few p h3; simp; omega
  · intro z hz
    rcases List.mem_append.1 hz with hz | hz
    · rcases h.que z hz with h3 | h3
      · exact .inl h3
      · exact .inr (List.mem_append_left _ h3)
    · exact .inr (List.mem_append_right _ hz)
  · rcases h.here with h3 | h3
    · exact .inl h3
    · exact .inr (List.mem_append_left _ h3)
  · rcases h.fst with h3 | h3
    · exact .inl h3
    · exact .inr fun z hz => by rw [hm]; exact List.mem_append_left _ (h3 z hz)
  · intro z hz
    rcases List.mem_append.1 hz with hz | hz
    · exact h.pos z hz
    · rw [List.mem_singleton.1 hz]; simp
  · intro z hz
    rcases List.mem_append.1 hz with hz | hz
    · exact h.lst z hz
    · rw [List.mem_singleton.1 hz]
      refine ⟨p.2, rfl, ?_, fun m hm hs => hy (h.lev m hm y hs)⟩
      have hyp := h.look.sub y (by simp)
      rcases h.here with h3 | h3
      · rw [h3] at hyp ⊢; exact hyp
      · obtain ⟨k, e1, e2⟩ := h.lst p h3
        rw [e1]; exact ⟨p.1, e2.1, hyp⟩
  · refine List.pairwise_append.2 ⟨h.mono, List.pairwise_singleton _ _, fun a ha b hb => ?_⟩
    rw [List.mem_singleton.1 hb]; exact (h.near a ha).2
  · intro z hz
    rcases List.mem_append.1 hz with hz | hz
    · exact h.near z hz
    · rw [List.mem_singleton.1 hz]; simp
  · intro m hmm x hx
    rw [hm]; exact List.mem_append_left _ (h.lev m hmm x hx)
theorem BfsL.close {pre todo : List (α × Nat)} {p : α × Nat} (h : BfsL nx s pre todo p []) : Bfs nx s pre todo := by
  refine ⟨h.look.close, h.par, h.few, h.que, .inr ⟨?_, h.pos⟩, h.lst, h.mono, fun x hx y hy => by have := h.near x hx; have := h.near y hy; omega⟩
  rcases h.fst with h3 | h3
  · intro y hy
    exact (h.look.part y (by rw [h3]; exact hy)).resolve_right (by simp)
  · exact h3
structure Got (nx : α → List α) (s : α) (pre : List (α × Nat)) : Prop where
  nodup : (pre.map Prod.fst).Nodup
  sound : ∀ x ∈ pre.map Prod.fst, Rch nx s x
  par : Par nx s pre
  few : Few pre
  lst : Lst nx s pre
theorem Bfs.got {pre todo : List (α × Nat)} (h : Bfs nx s pre todo) : Got nx s pre := ⟨h.srch.nodup, h.srch.sound, h.par, h.few, h.lst⟩
theorem BfsL.got {pre todo : List (α × Nat)} {p : α × Nat} {ys : List α} (h : BfsL nx s pre todo p ys) : Got nx s pre := ⟨h.look.nodup, h.look.sound, h.par, h.few, h.lst⟩
theorem nodup_len : ∀ (l u : List α), l.Nodup → (∀ x ∈ l, x ∈ u) → l.length ≤ u.length
  | [], _, _, _ => Nat.zero_le _
  | x :: l, u, hn, hs => by
    obtain ⟨a, b, e⟩ := List.append_of_mem (hs x (by simp))
    subst e
    rw [List.nodup_cons] at hn
    have := nodup_len l (a ++ b) hn.2 (fun y hy => by
      have h := hs y (by simp [hy])
      rcases List.mem_append.1 h with h | h
      · exact List.mem_append_left _ h
      · rcases List.mem_cons.1 h with h | h
        · subst h; exact absurd hy hn.1
        · exact List.mem_append_right _ h)
    simp only [List.length_append, List.length_cons] at this ⊢
    omega
theorem Rch.mem {u : List α} (hu : ∀ x, ∀ y ∈ nx x, y ∈ u) {a b : α} (h : Rch nx a b) : b ∈ u := by
  obtain ⟨n, hn⟩ := h; exact hn.mem hu
theorem Got.len {pre : List (α × Nat)} {u : List α} (h : Got nx s pre) (hu : ∀ x, ∀ y ∈ nx x, y ∈ u) : pre.length ≤ u.length := by
  have := nodup_len _ u h.nodup (fun x hx => (h.sound x hx).mem hu)
  rwa [List.length_map] at this
theorem Bfs.end_ {pre : List (α × Nat)} (h : Bfs nx s pre []) (x : α) : x ∈ pre.map Prod.fst ↔ Rch nx s x := h.srch.end_ x
end
end Go.Proofs.YtddlohbhchjjhaaGreatDoor

namespace Go.Proofs.YtddlohbhchjjhaaGreatDoor
open Go.RowKit

section
variable {F : Fence} {n : Nat} {P : Program} {b : Frame} {a : Act} {k : List Item} {cs : List Frame} {w : World} {Q : Exit → Act → World → Prop}
theorem stepR_scope {c : Code} : step P (lone (b.atR a (.code (.scope c) :: k)) cs w) = .next (lone (b.atR a (.code c :: .inScope c :: k)) cs w) :=
  step_lone_go (by simp [stepG, stepG.exec, Frame.atR])
theorem stepR_inScope {c : Code} : step P (lone (b.atR a (.inScope c :: k)) cs w) = .next (lone (b.atR a k) cs w) :=
  step_lone_go (by simp [stepG, stepG.exec, Frame.atR])
theorem wpIn_scope_straight {c : Code} (h : c.wpIn F n P (Exit.noGoto Q) a w) : (Code.scope c).wpIn F n P Q a w := by
  intro b k cs hro hb hr
  have h0 : (lone (b.atR a (.code (.scope c) :: k)) cs w).fenced P F := fenced_calm hb hr rfl
  obtain ⟨e, a₁, w₁, hq, harr⟩ := h b (.inScope c :: k) cs hro hb hr
  cases e with
  | normal => exact ⟨.normal, a₁, w₁, hq, .head h0 stepR_scope (StepsIn.trans harr (.one (fenced_calm hb hr rfl) stepR_inScope))⟩
  | exit id =>
    have hx : exitTo id (.inScope c :: k) = exitTo id k := by simp [exitTo]
    exact ⟨.exit id, a₁, w₁, hq, fun k' hk => .head h0 stepR_scope (harr.1 k' (by rw [hx]; exact hk)),
      fun hr' hk => let ⟨k₁, h1, h2⟩ := harr.2 hr' (by rw [hx]; exact hk); ⟨k₁, h1, .head h0 stepR_scope h2⟩⟩
  | goto l => exact hq.elim
  | ret => exact ⟨_, a₁, w₁, hq, .of_steps (.one h0 stepR_scope) harr⟩
  | panic ch => exact ⟨_, a₁, w₁, hq, .of_steps (.one h0 stepR_scope) harr⟩
  | outgrown => exact ⟨_, a₁, w₁, hq, .of_steps (.one h0 stepR_scope) harr⟩
end
end Go.Proofs.YtddlohbhchjjhaaGreatDoor

namespace Go.Proofs.YtddlohbhchjjhaaGreatDoor
open Go.RowKit Go.Maps
attribute [local go_sem] Oper.semAt_some

def metG (pre : List (ByteArray × Nat)) : ByteArray → Option Value := fun s => if pre.any (fun x => decide (x.1 = s)) then some (.bool true) else none
theorem metG_any (pre : List (ByteArray × Nat)) (s : ByteArray) : pre.any (fun x => decide (x.1 = s)) = true ↔ s ∈ pre.map Prod.fst := by
  simp [List.any_eq_true, List.mem_map]
theorem metG_in {pre : List (ByteArray × Nat)} {s : ByteArray} (h : s ∈ pre.map Prod.fst) : metG pre s = some (.bool true) := by
  unfold metG; rw [if_pos ((metG_any pre s).2 h)]
theorem metG_out {pre : List (ByteArray × Nat)} {s : ByteArray} (h : s ∉ pre.map Prod.fst) : metG pre s = none := by
  unfold metG; rw [if_neg (fun e => h ((metG_any pre s).1 e))]
theorem metG_put {pre : List (ByteArray × Nat)} {s : ByteArray} (k : Nat) : metG (pre ++ [(s, k)]) = upd (metG pre) s (.bool true) := by
  funext t
  unfold metG upd
  by_cases e : t = s
  · subst e; simp
  · have h : ((pre ++ [(s, k)]).any fun x => decide (x.1 = t)) = pre.any fun x => decide (x.1 = t) := by
      rw [List.any_append]; simp [Ne.symm e]
    rw [h, if_neg e]
theorem str_ne {a b : ByteArray} (h : a ≠ b) : (a.toList == b.toList) = false := by
  rw [beq_eq_false_iff_ne]
  intro e
  rw [ByteArray.toList_eq, ByteArray.toList_eq] at e
  exact h (data_inj e)
def NotIn (b : Nat) (A : Option Addr) (c : Nat) : Prop := c ≠ 0 → ∀ g off, A = some ⟨g, off, none⟩ → g ≠ b
theorem plC_get (x : ByteArray) (k : Int) (j : Nat) (u : Value) (w : World) (t : TypeId) (h : [Value.string x, .int .i64 k][j]? = some u) : (w.alloc (.cells #[.string x, .int .i64 k] t)).cell? ⟨w.heap.size, 0 + j, none⟩ = some u := by
  have hk : Bk (w.alloc (.cells #[.string x, .int .i64 k] t)) w.heap.size t #[.string x, .int .i64 k] := Bk.new w _ _
  rw [hk.cell]
  match j, h with
  | 0, h => simpa using h
  | 1, h => simpa using h
def plC (x : ByteArray × Nat) : List Value := [.string x.1, .int .i64 x.2]

theorem infoPl : (Tryz.prog.info? 137).map (fun i => (i.zero, i.size, i.bytes)) = some (some (.agg #[.string ⟨#[]⟩, .int .i64 0]), 2, 24) := by kernel_rfl
theorem Que.slice1 {P : Program} {w : World} {base size n c g off : Nat} {e t : TypeId} {xs : List Value} (i : TypeInfo) (ht : P.underlying t = some (.slice e)) (hi : P.info? e = some i) (hsz : i.size = size) (h : Que w base e size (some ⟨g, off, none⟩) (n + 1) c xs) :
    ∃ A1, (∀ w' : World, (Instr.sliceAt t (.slice (some ⟨g, off, none⟩) (n + 1) c) (some (.int .i64 1)) none none).run P w' = .ok (.slice A1 n (c - 1)) w') ∧ Que w base e size A1 n (c - 1) (xs.drop size) := by
  have hle := h.le
  refine ⟨if c = 1 then some ⟨g, off, none⟩ else some ⟨g, off + size, none⟩, fun w' => ?_, ?_⟩
  · by_cases e : c = 1
    · simp [Instr.sliceAt, Instr.slice, run_underlying ht, Instr.sliceBounds, Instr.sliceBound, asIntOf, sizeOf, typeInfo, hi, hsz, e]; omega
    · simp [Instr.sliceAt, Instr.slice, run_underlying ht, Instr.sliceBounds, Instr.sliceBound, asIntOf, sizeOf, typeInfo, hi, hsz, e, Addr.add_lit]; omega
  · by_cases e : c = 1
    · rw [if_pos e]
      have h0 := h.tail.1
      exact ⟨h0, .inl ⟨by omega, by omega⟩⟩
    · rw [if_neg e]; exact h.tail

set_option maxRecDepth 100000 in
set_option maxHeartbeats 8000000 in
theorem reached_st (n : Nat) (hn : 1 ≤ n) (hi bs bx bn N hz : Nat) (start : ByteArray) (gn : ByteArray → Option Value) (Ln : ByteArray → List ByteArray) (U : List ByteArray) (w : World)
    (h0 : NxR w Tryz.prog 9 81 hi bs bx bn N start gn Ln) (hhi : hi ≤ w.heap.size) (hbs : bs < w.heap.size) (hbx : bx < w.heap.size) (hwz : w.heap.size ≤ hz)
    (hU : ∀ x, ∀ y ∈ Ln x, y ∈ U) (hUl : U.length ≤ 1000) (hUs : ∀ y ∈ U, y.size ≤ maxLen) (hss : start.size ≤ maxLen) :
    SeqT Fence.wide n Tryz.prog 108 #[.pointer (some ⟨bs, 0, none⟩), .pointer (some ⟨bx, 0, none⟩)] (fun x : ByteArray × Nat => #[.string x.1, .int .i64 x.2])
      (KeepR hz 137 (fun j => j < hi ∨ j = bs ∨ j = bx)) (StepR hz 137) (Got Ln start) (fun xs => Got Ln start xs ∧ ∀ x, x ∈ xs.map Prod.fst ↔ Rch Ln start x) (Got Ln start) hz w := fun l J Jx W hW hWz hJ hY hJ0 => by
  subst hWz
  have HN : Hid (NxR W Tryz.prog 9 81 hi bs bx bn N start gn Ln) := h0.keep fun j hj => hW.block j (by omega)
  have HN1 := Lib.hid (HN.out.step (StepR.alloc (bm := W.heap.size) (e := 137) W (.map #[] 0)) (by omega) (by omega) (by omega) (Nat.le_refl _))
  have s0 := cell_of_one HN1.out.s
  have HJ := Lib.hid hJ; have HY := Lib.hid hY; have HJ0 := Lib.hid hJ0; have HUU := Lib.hid hU; have HUS := Lib.hid hUs
  clear hW h0 hJ hY hJ0 hU hUs
  have hmm := @run_makeMap Tryz.prog
  obtain ⟨i0, hi0, hz0, hz1, hz2⟩ := info_parts infoPl
  have Hi := Lib.hid hi0; have Hz0 := Lib.hid hz0; have Hz1 := Lib.hid hz1; have Hz2 := Lib.hid hz2
  clear hi0 hz0 hz1 hz2
  refine callsIn_of_wp Tryz.func108 rfl trivial ?_ rfl
  simp only [Tryz.ntmps108, List.size_toArray, List.length_cons, List.length_nil, Nat.reduceAdd, Nat.reduceSub, Array.replicate_succ, Array.replicate_zero, List.push_toArray, List.append_toArray, List.nil_append, List.cons_append]
  refine wpIn_scope_straight ?_
  gi_wp2
  refine wpIn_label ?_
  gi_wp2
  have HQ0 : Hid (Que ((W.alloc (.map #[] 0)).alloc (.cells #[.string start, .int .i64 0] 137)) (W.heap.size + 1) 137 2 (some ⟨W.heap.size + 1, 0, none⟩) 1 1 (flat plC [(start, 0)])) :=
    ⟨rfl, .inr ⟨W.heap.size + 1, 0, #[.string start, .int .i64 0], rfl, Nat.le_refl _, by have := World.alloc_heap_new (W.alloc (.map #[] 0)) (.cells #[.string start, .int .i64 0] 137); rwa [World.size_alloc] at this, Nat.le_refl _, by unfold maxLen; omega, rfl, rfl⟩⟩
  have HM0 : Hid (Rm ((W.alloc (.map #[] 0)).alloc (.cells #[.string start, .int .i64 0] 137)) Tryz.prog 9 W.heap.size 0 (metG [])) := (Rm.made W Tryz.prog 9).alloc _
  have HN2 := Lib.hid (HN1.out.step (StepR.alloc (bm := W.heap.size) (e := 137) (W.alloc (.map #[] 0)) (.cells #[.string start, .int .i64 0] 137)) (by omega) (by omega) (by omega) (by simp))
  have HJ2 := Lib.hid (HJ.out [] _ _ (HJ.out [] _ _ HJ0.out (StepR.alloc W (.map #[] 0))) (StepR.alloc _ (.cells #[.string start, .int .i64 0] 137)))
  gi_loopg [5] (2 * (U.length + 1) + 1) (fun m q wr => ∃ (pre todo : List (ByteArray × Nat)) (A : Option Addr) (nq c : Nat), m = 2 * (U.length + 1 - pre.length) + nq ∧ todo.length = nq ∧ q = .slice A nq c ∧ Hid (Que wr (W.heap.size + 1) 137 2 A nq c (flat plC todo)) ∧ Hid (Rm wr Tryz.prog 9 W.heap.size pre.length (metG pre)) ∧
    Hid (NxR wr Tryz.prog 9 81 hi bs bx bn N start gn Ln) ∧ Hid (Bfs Ln start pre todo) ∧ Hid (J pre wr) ∧ W.heap.size + 1 ≤ wr.heap.size ∧ 2 * (U.length + 1 - pre.length) + nq ≤ 2 * (U.length + 1) + 1)
  case atStart => exact ⟨[], [(start, 0)], _, 1, 1, rfl, rfl, rfl, HQ0.out, HM0.out, HN2.out, Bfs.start Ln start, HJ2.out, by simp, by simp⟩
  case round =>
    obtain ⟨pre, todo, A, nq, c, rfl, hnq, rfl, hQ, hM, hN, hB, hj, hwz1, hmost⟩ := hrel
    cases todo with
    | nil =>
      obtain rfl : nq = 0 := by simpa using hnq.symm
      have HG := Lib.hid hB.out.got
      have HE := Lib.hid hB.out.end_
      clear hB
      gi_wp2
      simp only [Exit.noGoto]
      go_end0
      exact ⟨⟨_, rfl⟩, .inl ⟨pre, ⟨HG.out, HE.out⟩, hj.out⟩⟩
    | cons p todo =>
      obtain ⟨lab, st⟩ := p
      have HGL := hB.out.got.len HUU.out
      have hst : st ≤ U.length := by
        rcases hB.out.que (lab, st) (by simp) with e | e
        · simp at e; omega
        · have := hB.out.few _ e; simp at this; omega
      have hq1 : nq = todo.length + 1 := by simpa using hnq.symm
      subst hq1
      obtain ⟨qb, qo, y, rfl, hqb, hy, hyc⟩ := hQ.out.sl.at_ (enc := plC) (fun _ => rfl) (by omega) (Nat.zero_lt_succ _)
      have hy' : y = (lab, st) := by simpa using hy.symm
      subst hy'
      have q0 := hyc 0 _ rfl; have q1 := hyc 1 _ rfl
      simp only [Nat.zero_mul, Nat.add_zero] at q0 q1
      obtain ⟨A1, hsl1, hQ1⟩ := hQ.out.slice1 i0 Tryz.underlying138 Hi.out Hz1.out
      have HQ1 : Hid (Que wr (W.heap.size + 1) 137 2 A1 todo.length (c - 1) (flat plC todo)) := hQ1
      clear hy hyc hnq hQ1
      have HNp := Lib.hid (hN.out.step (StepR.alloc (bm := W.heap.size) (e := 137) wr (.cells #[.string lab, .int .i64 st] 137)) (by omega) (by omega) (by omega) (by omega))
      have z0 := cell_of_one HNp.out.s
      have z1 := cell_of_one HNp.out.x
      have hkp : Bk (wr.alloc (.cells #[.string lab, .int .i64 st] 137)) wr.heap.size 137 #[.string lab, .int .i64 st] := Bk.new wr _ _
      have HQp : Hid (Que (wr.alloc (.cells #[.string lab, .int .i64 st] 137)) (W.heap.size + 1) 137 2 A1 todo.length (c - 1) (flat plC todo)) := HQ1.out.keep fun g cur hg => Below.heap_alloc _ _ _ (Array.getElem?_eq_some_iff.1 hg).1
      have HMp := Lib.hid (hM.out.alloc (.cells #[.string lab, .int .i64 st] 137))
      have HJp := Lib.hid (HJ.out pre _ _ hj.out (StepR.alloc wr (.cells #[.string lab, .int .i64 st] 137)))
      have p0 := hkp.cell 0; have p1 := hkp.cell 1
      simp at p0 p1
      have HQ1' := HQ1
      clear hQ hM hj HQ1 hN
      by_cases hpass : st ≠ 0 ∧ lab = start
      · obtain ⟨hp1, rfl⟩ := hpass
        have hpi : (0 : Int) < (st : Int) := by omega
        have HB1 := Lib.hid (hB.out.pass rfl hp1)
        clear hB
        gi_wp2
        gi_roundg (2 * (U.length + 1 - pre.length) + todo.length)
        case rel => exact ⟨pre, todo, A1, todo.length, c - 1, rfl, rfl, rfl, HQp.out, HMp.out, HNp.out, HB1.out, HJp.out, by simp; omega, by omega⟩
        case measure => omega
      · obtain ⟨An, cn, hgn, hSn, hcn, hcn'⟩ := HNp.out.rows lab
        have hls : lab.size ≤ maxLen := by
          rcases hB.out.que (lab, st) (by simp) with e | e
          · simp at e; rw [e.1]; exact hss
          · exact HUS.out lab ((hB.out.got.sound lab (List.mem_map_of_mem (f := Prod.fst) e)).mem HUU.out)
        have hlk := HNp.out.map.look Tryz.underlying9 Tryz.underlying81 (Tryz.zeroValue33 _) hls
        have hlk2 : (Instr.lookup 81 (.map (some bn)) (.string lab) false).run Tryz.prog (wr.alloc (.cells #[.string lab, .int .i64 st] 137)) = .ok (.slice An (Ln lab).length cn) (wr.alloc (.cells #[.string lab, .int .i64 st] 137)) := by rw [← hgn]; exact hlk
        have HGN := Lib.hid hgn
        have HBL := Lib.hid hB.out.look
        have HNI : Hid (NotIn wr.heap.size A1 (c - 1)) := fun h0 g off e => by
          obtain ⟨_, ⟨_, h1⟩ | ⟨g', off', cur, h1, h2, h3, _⟩⟩ := HQ1'.out
          · exact absurd h1 h0
          · rw [e] at h1; cases h1
            have := (Array.getElem?_eq_some_iff.1 h3).1; omega
        have hways : (st = 0) ∨ (st ≠ 0 ∧ lab ≠ start) := by
          by_cases e : st = 0
          · exact .inl e
          · exact .inr ⟨e, fun e2 => hpass ⟨e, e2⟩⟩
        have HKP := Lib.hid hkp
        clear hlk hgn hSn hB hpass HQ1' hkp
        have hUle : U.length + 1 - pre.length = U.length - pre.length + 1 := by omega
        have hLl : (Ln lab).length ≤ 9223372036854775807 := by have := Nat.le_trans hcn hcn'; unfold maxLen at this; omega
        rcases hways with hw0 | ⟨hw0, hw1⟩
        case' inl =>
          have hpi : ¬ (0 : Int) < (st : Int) := by omega
          clear hw0
          gi_wp2
        case' inr =>
          have hpi : (0 : Int) < (st : Int) := by omega
          have hse := str_ne hw1
          gi_wp2
        all_goals
          clear hlk2 q0 q1 z0 z1 hsl1
          gi_loopg [5, 35] ((Ln lab).length) (fun m q i wi => ∃ (pre2 todo2 : List (ByteArray × Nat)) (A2 : Option Addr) (nq c2 j : Nat), m = (Ln lab).length - j ∧ j ≤ (Ln lab).length ∧ i = .int .i64 j ∧ todo2.length = nq ∧ q = .slice A2 nq c2 ∧ Hid (Que wi (W.heap.size + 1) 137 2 A2 nq c2 (flat plC todo2)) ∧ Hid (NotIn wr.heap.size A2 c2) ∧ Hid (Rm wi Tryz.prog 9 W.heap.size pre2.length (metG pre2)) ∧
            Hid (NxR wi Tryz.prog 9 81 hi bs bx bn N start gn Ln) ∧ Hid (BfsL Ln start pre2 todo2 (lab, st) ((Ln lab).drop j)) ∧ Hid (J pre2 wi) ∧ Hid (Bk wi wr.heap.size 137 #[.string lab, .int .i64 st]) ∧
            2 * (U.length + 1 - pre2.length) + todo2.length ≤ 2 * (U.length + 1 - pre.length) + todo.length ∧ W.heap.size + 1 ≤ wi.heap.size ∧ wr.heap.size < wi.heap.size)
          case atStart => exact ⟨pre, todo, A1, todo.length, c - 1, 0, rfl, Nat.zero_le _, rfl, rfl, rfl, HQp.out, HNI.out, HMp.out, HNp.out, HBL.out, HJp.out, HKP.out, Nat.le_refl _, by simp; omega, by simp⟩
          case round =>
            obtain ⟨pre2, todo2, A2, nq, c2, j, rfl, hj, rfl, hnq, rfl, hQ, hNI, hM, hN, hB, hJ2, hK, hcnt, hz2, hz3⟩ := hrel
            subst hnq
            have HGL2 := hB.out.got.len HUU.out
            by_cases hjn : j < (Ln lab).length
            · obtain ⟨An2, cn2, hgn2, hSn2, _⟩ := hN.out.rows lab
              rw [HGN.out] at hgn2
              simp only [Value.slice.injEq, true_and] at hgn2
              obtain ⟨rfl, rfl⟩ := hgn2
              obtain ⟨rb, ro, x, rfl, hrb, hx, y0⟩ := hSn2.str_at hjn
              have hxU : x ∈ U := HUU.out lab x (List.mem_of_getElem? hx)
              have hxs := HUS.out x hxU
              have hdrop : (Ln lab).drop j = x :: (Ln lab).drop (j + 1) := by
                rw [List.drop_eq_getElem_cons hjn]; congr 1; exact (List.getElem?_eq_some_iff.1 hx).2
              have hB2 := hB.out
              rw [hdrop] at hB2
              have hlz : (j : Int) < ((Ln lab).length : Int) := by omega
              have hlk := hM.out.look Tryz.underlying9 Tryz.underlying66 (Tryz.zeroValue4 _) hxs
              clear hSn2 hx hdrop hB
              by_cases hmet : x ∈ pre2.map Prod.fst
              · rw [metG_in hmet] at hlk
                simp only [Option.getD_some] at hlk
                have HB3 := Lib.hid (hB2.skip hmet)
                clear hB2 hmet
                gi_wp2
                gi_roundg ((Ln lab).length - (j + 1))
                case rel => exact ⟨pre2, todo2, A2, todo2.length, c2, j + 1, rfl, hjn, by go_num, rfl, rfl, hQ.out, hNI.out, hM.out, hN.out, HB3.out, hJ2.out, hK.out, hcnt, hz2, hz3⟩
                case measure => omega
              · rw [metG_out hmet] at hlk
                simp only [Option.getD_none] at hlk
                have HB3 := Lib.hid (hB2.take hmet)
                have HB3g := HB3.out.got.len HUU.out
                clear hB2 hmet
                have p1 := hK.out.cell 1
                simp only [List.getElem?_toArray, List.getElem?_cons_succ, List.getElem?_cons_zero] at p1
                gi_wp2_with (gi_at_mapUpdate; refine halt_ ?_)
                refine unhalt ?_
                refine wpListIn_put_rm rfl _ _ _ 66 rfl 9 4 Tryz.underlying9 Tryz.underlying66 W.heap.size pre2.length (metG pre2) rfl hM.out (by unfold maxLen; omega) x hxs (.bool true) rfl rfl ?_
                intro w2 hM2 hg2
                rw [← metG_put (st + 1)] at hM2
                have hS2 : StepR W.heap.size 137 wr w2 := StepR.of_grown hg2 (fun g e => by cases e; exact .inl rfl)
                have HM2 := Lib.hid hM2
                have HQ2 : Hid (Que w2 (W.heap.size + 1) 137 2 A2 todo2.length c2 (flat plC todo2)) := hQ.out.keep fun g cur hg => hg2.block g (Array.getElem?_eq_some_iff.1 hg).1 (fun e => by
                  cases e
                  obtain ⟨_, ⟨_, _, h1, _⟩, _⟩ := hM.out
                  rw [hg] at h1; cases h1)
                have HK2 : Hid (Bk w2 _ 137 #[.string lab, .int .i64 st]) := hK.out.grown hg2 (by simp; omega)
                have HN2 := Lib.hid (hN.out.step hS2 (by omega) (by omega) (by omega) (by omega))
                have HJ2' := Lib.hid (HJ.out pre2 _ _ hJ2.out hS2)
                have hz4 := hg2.size
                clear hM2 hg2 hS2 hM hQ hK hN hJ2 y0 hlk p1
                have p1 := HK2.out.cell 1
                simp only [List.getElem?_toArray, List.getElem?_cons_succ, List.getElem?_cons_zero] at p1
                obtain ⟨fn, tmps, assign, body, hy, hR⟩ := HY.out pre2 (x, st + 1) w2 HB3.out.got HJ2'.out
                simp only [Int.natCast_add, Int.cast_ofNat_Int] at hy
                have HR := Lib.hid hR
                clear hR
                gi_wp2
                refine HR.out.mono ?_
                rintro e W3 (⟨rfl, hJ3, hK3⟩ | ⟨rfl, hJx3⟩)
                · have HJ3 := Lib.hid hJ3
                  have HQ3 : Hid (Que W3 (W.heap.size + 1) 137 2 A2 todo2.length c2 (flat plC todo2)) := HQ2.out.keep fun g cur hg => hK3.block g (Array.getElem?_eq_some_iff.1 hg).1 (.inr (.inl (by rw [hg]; rfl)))
                  have HM3 := Lib.hid (HM2.out.block (hK3.block W.heap.size (by omega) (.inl rfl)))
                  have HK3 : Hid (Bk W3 _ 137 #[.string lab, .int .i64 st]) := (hK3.block _ HK2.out.lt (.inr (.inl (by rw [show _ = _ from HK2.out]; rfl)))).trans HK2.out
                  have HN3 := Lib.hid (HN2.out.round hK3 (by omega) (by omega) (by omega) (by omega))
                  have hz5 := hK3.size
                  clear hJ3 hK3 HR HJ2' HQ2 HM2 HK2 HN2 hy p1
                  have p1 := HK3.out.cell 1
                  simp only [List.getElem?_toArray, List.getElem?_cons_succ, List.getElem?_cons_zero] at p1
                  gi_wp2_with (gi_at_builtin; refine halt_ ?_)
                  refine unhalt ?_
                  refine wpListIn_append_que (base := W.heap.size + 1) (size := 2) rfl (.tmp 51) (.tmp 57) 138 rfl 137 i0 _ 24 Tryz.underlying138 Hi.out Hz0.out Hz1.out Hz2.out rfl (by decide) A2 todo2.length c2 (flat plC todo2) rfl ?own (W3.heap.size + 1) (some ⟨W3.heap.size, 0, none⟩) 1 1 (flat plC [(x, st + 1)]) ?hx ?hsl (by simp [flat, plC, Value.oneCell']) (by decide) ?l1 ?l2 ?l3 ?_
                  case own => exact HQ3.out.keep fun g cur hg => Below.heap_alloc _ _ _ (Array.getElem?_eq_some_iff.1 hg).1
                  case hx => rfl
                  case hsl => exact ⟨rfl, fun _ => ⟨_, 0, rfl, Nat.lt_succ_self _, fun j u hu => plC_get x _ j u W3 _ (by simpa [flat, plC] using hu)⟩⟩
                  case l1 => unfold maxLen; omega
                  case l2 => omega
                  case l3 => simp; omega
                  intro A4 c4 w4 row hQ4 hg4 hrow hA4
                  have hS4 : StepR W.heap.size 137 (W3.alloc (.cells #[.string x, .int .i64 (st + 1)] 137)) w4 := StepR.of_grown hg4 (fun g e => by
                    obtain ⟨h1, ⟨cur, h2⟩, _⟩ := hrow g e
                    exact .inr ⟨by omega, by rw [h2]; rfl⟩)
                  have HS4 := Lib.hid hS4
                  have hz6 := hg4.size
                  rw [World.size_alloc] at hz6
                  have hnb : ∀ g, row = some g → g ≠ _ := fun g e => by
                    obtain ⟨_, _, h3, off, h4⟩ := hrow g e
                    exact hNI.out h3 g off h4
                  have HK4 := Lib.hid ((HK3.out.alloc (.cells #[.string x, .int .i64 (st + 1)] 137)).grown hg4 (fun e => hnb _ e.symm rfl))
                  have HM4 := Lib.hid ((HM3.out.alloc (.cells #[.string x, .int .i64 (st + 1)] 137)).kept hg4 (fun e => by have := (hrow _ e.symm).1; omega))
                  have HN4 := Lib.hid ((HN3.out.step (StepR.alloc (bm := W.heap.size) (e := 137) W3 (.cells #[.string x, .int .i64 (st + 1)] 137)) (by omega) (by omega) (by omega) (by omega)).step HS4.out (by omega) (by omega) (by omega) (by simp; omega))
                  have HJ4 := Lib.hid (HJ.out _ _ _ (HJ.out _ _ _ HJ3.out (StepR.alloc W3 (.cells #[.string x, .int .i64 (st + 1)] 137))) HS4.out)
                  have HNI4 : Hid (NotIn _ A4 c4) := fun _ g off e => by
                    rcases hA4 g off e with ⟨h1, off', h2⟩ | h1
                    · exact hNI.out h1 g off' h2
                    · have := HK3.out.lt
                      simp at h1; omega
                  have HQ4 : Hid (Que w4 (W.heap.size + 1) 137 2 A4 (todo2.length + 1) c4 (flat plC (todo2 ++ [(x, st + 1)]))) := by
                    show Que _ _ _ _ _ _ _ _
                    rw [flat_append]; exact hQ4
                  clear hQ4 hg4 hrow hA4 hS4 hnb HS4 p1
                  gi_wp2
                  gi_roundg ((Ln lab).length - (j + 1))
                  case rel => exact ⟨pre2 ++ [(x, st + 1)], todo2 ++ [(x, st + 1)], A4, todo2.length + 1, c4, j + 1, rfl, hjn, by go_num, by simp, by simp, HQ4.out, HNI4.out, by show Rm _ _ _ _ _ _; rw [List.length_append]; exact HM4.out, HN4.out, HB3.out, HJ4.out, HK4.out, by simp at HB3g ⊢; omega, by omega, by omega⟩
                  case measure => omega
                · gi_wp2
                  simp only [Exit.noGoto]
                  go_end0
                  exact ⟨⟨_, rfl⟩, .inr ⟨_, HB3.out.got, hJx3⟩⟩
            · have hlz : ¬ (j : Int) < ((Ln lab).length : Int) := by omega
              have hBc : BfsL Ln start pre2 todo2 (lab, st) [] := by
                have h1 := hB.out; rwa [List.drop_of_length_le (by omega)] at h1
              have HB3 := Lib.hid hBc.close
              clear hBc hB
              gi_wp2
              gi_roundg (2 * (U.length + 1 - pre2.length) + todo2.length)
              case rel => exact ⟨pre2, todo2, A2, todo2.length, c2, rfl, rfl, rfl, hQ.out, hM.out, hN.out, HB3.out, hJ2.out, hz2, by omega⟩
              case measure => omega
end Go.Proofs.YtddlohbhchjjhaaGreatDoor

namespace Go.Proofs.YtddlohbhchjjhaaGreatDoor
open Go.RowKit Go.Maps
attribute [local go_sem] Oper.semAt_some

set_option maxHeartbeats 400000 in
theorem reached_any (b : Nat) (s : ByteArray) (w : World) :
    Calls Tryz.prog 65 #[.map (some b), .string s] w fun e w' => e = .returned (.func (.func 108) #[] #[.pointer (some ⟨w.heap.size + 1, 0, none⟩), .pointer (some ⟨w.heap.size, 0, none⟩)]) ∧
      w' = (w.alloc (.cells #[.map (some b)] 81)).alloc (.cells #[.string s] 9) := by
  go_enter Tryz.func65, Tryz.ntmps65
  go_wp2
  go_ret
  exact ⟨rfl, rfl⟩
structure Nxm (w : World) (hi b N : Nat) (gn : ByteArray → Option Value) (Ln : ByteArray → List ByteArray) : Prop where
  lt : b < hi
  map : Rm w Tryz.prog 9 b N gn
  rows : ∀ s, ∃ A c, (gn s).getD (.slice none 0 0) = .slice A (Ln s).length c ∧ Sl w hi 1 A (Ln s).length (strs (Ln s)) ∧ (Ln s).length ≤ c ∧ c ≤ maxLen
theorem Nxm.keep {W W' : World} {hi b N : Nat} {gn : ByteArray → Option Value} {Ln : ByteArray → List ByteArray} (h : Nxm W hi b N gn Ln) (hk : ∀ j, j < hi → W'.heap[j]? = W.heap[j]?) : Nxm W' hi b N gn Ln :=
  ⟨h.lt, h.map.block (hk b h.lt), fun s => by
    obtain ⟨A, c, h1, h2, h3⟩ := h.rows s
    exact ⟨A, c, h1, h2.keep fun p hp => World.cell?_of_block (hk p.block hp), h3⟩⟩
theorem Nxm.below {W W' : World} {hi b N B : Nat} {gn : ByteArray → Option Value} {Ln : ByteArray → List ByteArray} (h : Nxm W hi b N gn Ln) (hb : Below B W W') (hB : hi ≤ B) : Nxm W' hi b N gn Ln := h.keep fun j hj => hb.block j (by omega)
theorem Nxm.boxed {W : World} {hi b N : Nat} {gn : ByteArray → Option Value} {Ln : ByteArray → List ByteArray} (h : Nxm W hi b N gn Ln) (hz : hi ≤ W.heap.size) (s : ByteArray) :
    NxR ((W.alloc (.cells #[.map (some b)] 81)).alloc (.cells #[.string s] 9)) Tryz.prog 9 81 hi (W.heap.size + 1) W.heap.size b N s gn Ln := by
  have h2 := h.below (((Below.refl _ W).alloc (Nat.le_refl _) (.cells #[.map (some b)] 81)).alloc (by simp) (.cells #[.string s] 9)) hz
  refine ⟨?_, ?_, h2.lt, h2.map, h2.rows⟩
  · have := World.alloc_heap_new (W.alloc (.cells #[.map (some b)] 81)) (.cells #[.string s] 9); rwa [World.size_alloc] at this
  · exact (Below.heap_alloc _ _ _ (by simp)).trans (World.alloc_heap_new W _)
theorem keepR_put {bm : Nat} {e : TypeId} {Kf : Nat → Prop} (W : World) (l : Nat) (r : Loop) (o' : Obj) (hl : W.heap[l]? = some (.loop r)) (hb : l ≠ bm) (hf : ¬ Kf l) : KeepR bm e Kf W (W.putObj l o') :=
  ⟨by simp, fun k _ hk => World.putObj_heap_other (fun e' => by
    subst e'
    rcases hk with h | h | h
    · exact hb h
    · rw [hl] at h; exact h
    · exact hf h)⟩
theorem KeepR.refl (bm : Nat) (e : TypeId) (Kf : Nat → Prop) (W : World) : KeepR bm e Kf W W := ⟨Nat.le_refl _, fun _ _ _ => rfl⟩
theorem StepR.below {bm B : Nat} {e : TypeId} {A C w : World} (h : StepR bm e A C) (hb : Below B w A) (hB : B ≤ bm) (hz : B ≤ A.heap.size) : Below B w C :=
  hb.trans ⟨h.os, h.tape, h.output, h.size, fun k hk => h.block k (by omega) (.inl (by omega))⟩
theorem stepR_rec {bm D : Nat} {e : TypeId} {A C : World} (h : StepR bm e A C) (hD : D + 2 = bm) (hz : bm ≤ A.heap.size) : Rec2 D A C :=
  ⟨h.block D (by omega) (.inl (by omega)), h.block (D + 1) (by omega) (.inl (by omega))⟩
theorem one_grown {w w' : World} {b : Nat} {v : Value} {t : TypeId} {row : Option Nat} (h : w.heap[b]? = some (.cells #[v] t (0, 0))) (hg : w.grownBy w' row) (hr : some b ≠ row) : w'.heap[b]? = some (.cells #[v] t (0, 0)) :=
  (hg.block b (Array.getElem?_eq_some_iff.1 h).1 hr).trans h
theorem resultsRet {w : World} {a : Array Value} {r : Nat} {x : Bool} (ha : a[4]?.getD undef = .pointer (some ⟨r, 0, none⟩)) (h : w.heap[r]? = some (.cells #[.bool x] 4 (0, 0))) :
    (results Tryz.f64 a).run Tryz.prog w = .ok (.bool x) w := by
  have hc := cell_of_one h
  simp [results, Tryz.results64, ha, go_sem, hc]

set_option maxRecDepth 100000 in
set_option maxHeartbeats 2000000 in
theorem returns_any (hi b N : Nat) (s : ByteArray) (gn : ByteArray → Option Value) (Ln : ByteArray → List ByteArray) (U : List ByteArray) (w : World) (hm : Nxm w hi b N gn Ln) (hz : hi ≤ w.heap.size)
    (hU : ∀ x, ∀ y ∈ Ln x, y ∈ U) (hUl : U.length ≤ 1000) (hUs : ∀ y ∈ U, y.size ≤ maxLen) (hss : s.size ≤ maxLen) :
    Calls Tryz.prog 64 #[.map (some b), .string s] w fun e w' => ∃ r : Bool, e = .returned (.bool r) ∧ (r = true ↔ Rch Ln s s) ∧ Below w.heap.size w w' := by
  refine (callsIn_wide (n := 6)).1 ?_
  have hf1 : Fence.wide.fn 65 := trivial
  have HM := Lib.hid hm; have HU := Lib.hid hU; have HUS := Lib.hid hUs
  clear hm hU hUs
  refine callsIn_of_wp_marks Tryz.func64 rfl trivial ?_ rfl
  simp only [Tryz.ntmps64, List.size_toArray, List.length_cons, List.length_nil, Nat.reduceAdd, Nat.reduceSub, Array.replicate_succ, Array.replicate_zero, List.push_toArray, List.append_toArray, List.nil_append, List.cons_append]
  gi_wp2_with (gi_at_call 65; refine (callsIn_wide.2 (reached_any _ _ _)).mono ?_; rintro e w' ⟨rfl, rfl⟩)
  obtain ⟨W1, hW1⟩ : ∃ W1, (w.alloc (.cells #[.string s] 9)).alloc (.cells #[.bool false] 4) = W1 := ⟨_, rfl⟩
  have hz1 : W1.heap.size = w.heap.size + 2 := by rw [← hW1]; simp
  have hb1 : Below w.heap.size w W1 := by rw [← hW1]; exact ((Below.refl _ w).alloc (Nat.le_refl _) _).alloc (by simp) _
  have g0 : W1.heap[w.heap.size]? = some (.cells #[.string s] 9 (0, 0)) := by rw [← hW1]; exact (Below.heap_alloc _ _ _ (by simp)).trans (World.alloc_heap_new w _)
  have g1 : W1.heap[w.heap.size + 1]? = some (.cells #[.bool false] 4 (0, 0)) := by
    rw [← hW1]
    have := World.alloc_heap_new (w.alloc (.cells #[.string s] 9)) (.cells #[.bool false] 4); rwa [World.size_alloc] at this
  have hnx : NxR ((W1.alloc (.cells #[.map (some b)] 81)).alloc (.cells #[.string s] 9)) Tryz.prog 9 81 hi (w.heap.size + 1 + 1 + 1) (w.heap.size + 1 + 1) b N s gn Ln := by
    have := (HM.out.below hb1 hz).boxed (by omega) s
    rw [hz1] at this; exact this
  rw [hW1]
  obtain ⟨W2, hW2⟩ : ∃ W2, (W1.alloc (.cells #[.map (some b)] 81)).alloc (.cells #[.string s] 9) = W2 := ⟨_, rfl⟩
  have hz2 : W2.heap.size = w.heap.size + 4 := by rw [← hW2]; simp; omega
  have hb12 : Below W1.heap.size W1 W2 := by rw [← hW2]; exact ((Below.refl _ W1).alloc (Nat.le_refl _) _).alloc (by simp) _
  have hb2 : Below w.heap.size w W2 := hb1.trans (hb12.mono (by omega))
  replace g0 := (hb12.block w.heap.size (by omega)).trans g0
  replace g1 := (hb12.block (w.heap.size + 1) (by omega)).trans g1
  rw [hW2] at hnx ⊢
  clear hW1 hW2 hb12 hb1 hz1 W1
  refine wpIn_rangeT (α := ByteArray × Nat) (F := Fence.wide) (n := 6) rfl (by omega) (gf := 108) (lb := #[.pointer (some ⟨w.heap.size + 1 + 1 + 1, 0, none⟩), .pointer (some ⟨w.heap.size + 1 + 1, 0, none⟩)]) rfl trivial (enters_of Tryz.func108 (by kernel_rfl) rfl)
    (reached_st 5 (by omega) hi (w.heap.size + 1 + 1 + 1) (w.heap.size + 1 + 1) b N (W2.heap.size + 2) s gn Ln U W2 hnx (by omega) (by omega) (by omega) (by omega) HU.out hUl HUS.out hss) KeepR.trans (fun W l r o' hl hlr => keepR_put W l r o' hlr (by omega) (by omega)) (fun A C h hA => stepR_rec h rfl hA) (Below.refl _ _) (fun _ => rfl)
    (fun pre W => W.heap[w.heap.size]? = some (.cells #[.string s] 9 (0, 0)) ∧ W.heap[w.heap.size + 1]? = some (.cells #[.bool false] 4 (0, 0)) ∧ Hid (∀ x ∈ pre, x.1 ≠ s) ∧ Below w.heap.size w W ∧ w.heap.size + 4 ≤ W.heap.size)
    (fun c pre W => c = .ret ∧ W.heap[w.heap.size + 1]? = some (.cells #[.bool true] 4 (0, 0)) ∧ Hid (∃ x ∈ pre, x.1 = s) ∧ Below w.heap.size w W)
    ?hI ?hIx ?hIS ⟨g0, g1, (fun x h => by cases h), hb2, by omega⟩
    (fun x => { tmps := #[.map (some b), .string s, undef, .pointer (some ⟨w.heap.size, 0, none⟩), .pointer (some ⟨w.heap.size + 1, 0, none⟩), .string x.1, .map (some b), .string s, .func (.func 108) #[] #[.pointer (some ⟨w.heap.size + 1 + 1 + 1, 0, none⟩), .pointer (some ⟨w.heap.size + 1 + 1, 0, none⟩)], .string x.1, .int .i64 x.2, undef, undef, undef], defers := [] }) ?assign ?body ?done ?stop
  case hI =>
    rintro pre A C row ⟨h0, h1, h2, h3, h4⟩ hg hr
    refine ⟨one_grown h0 hg (fun e => ?_), one_grown h1 hg (fun e => ?_), h2, h3.grown hg h3.size (fun k e => ?_), Nat.le_trans h4 hg.size⟩
    · have := (hr _ e.symm).1; omega
    · have := (hr _ e.symm).1; omega
    · have := (hr _ e).1; omega
  case hIx =>
    rintro c pre A C row ⟨h0, h1, h2, h3⟩ hg hr
    refine ⟨h0, one_grown h1 hg (fun e => ?_), h2, h3.grown hg h3.size (fun k e => ?_)⟩
    · have := (hr _ e.symm).1; omega
    · have := (hr _ e).1; omega
  case hIS =>
    rintro pre A C ⟨h0, h1, h2, h3, h4⟩ hs
    exact ⟨(hs.block _ (by omega) (.inl (by omega))).trans h0, (hs.block _ (by omega) (.inl (by omega))).trans h1, h2, hs.below h3 (by omega) (by omega), Nat.le_trans h4 hs.size⟩
  case assign =>
    intro l x W K hK
    gi_wp2
    exact hK
  case body =>
    rintro l pre x W hpf _ ⟨h0, h1, h2, h3, h4⟩
    have c0 := cell_of_one h0
    have c1 := cell_of_one h1
    have f1 := free_of_one h1
    have H0 := Lib.hid h0; have H1 := Lib.hid h1; have H3 := Lib.hid h3
    obtain ⟨y, k⟩ := x
    clear h0 h1 h3 g0 g1 hb2 hnx hpf
    by_cases e : y = s
    · subst e
      gi_wp2
      exact ⟨⟨Below.heap_setCell _ _ _ _ (by simp; omega), Below.heap_setCell _ _ _ _ (by simp; omega)⟩, rfl, one_setCell H1.out, ⟨(y, k), by simp, rfl⟩, H3.out.setCell (p := ⟨w.heap.size + 1, 0, none⟩) (by simp) _⟩
    · have hne := str_ne e
      have HE := Lib.hid e
      clear e
      gi_wp2
      refine ⟨Rec2.refl _ _, KeepR.refl _ _ _ _, H0.out, H1.out, ?_, H3.out, h4⟩
      intro z hz'
      rcases List.mem_append.1 hz' with h | h
      · exact h2.out z h
      · rw [List.mem_singleton.1 h]; exact HE.out
  case done =>
    rintro D xs W hD ⟨_, hS⟩ ⟨h0, h1, h2, h3, h4⟩ hK
    have c1 := cell_of_one h1
    have f1 := free_of_one h1
    have H1 := Lib.hid h1; have H3 := Lib.hid h3; have HK := Lib.hid hK; have HS := Lib.hid hS
    clear h0 h1 h3 hK hS
    gi_wp2
    have hK2 := (KeepsOthers.setCell W ⟨w.heap.size + 1, 0, none⟩ (.bool false)).same D _ HK.out rfl
    refine ⟨by simp, .inl ⟨_, _, rfl, run_takeDeferred hK2, ?_⟩⟩
    refine ⟨_, resultsRet rfl ((World.putObj_heap_other (by omega)).trans (one_setCell H1.out)), false, rfl, ?_, ?_⟩
    · constructor
      · intro h; cases h
      · intro h
        obtain ⟨x, hx, e⟩ := List.mem_map.1 ((HS.out s).2 h)
        exact absurd e (h2.out x hx)
    · exact (H3.out.setCell (p := ⟨w.heap.size + 1, 0, none⟩) (by simp) _).grown (grownBy_putObj' _ _ _) ((H3.out.setCell (p := ⟨w.heap.size + 1, 0, none⟩) (by simp) _).size) (fun k e => by cases e; omega)
  case stop =>
    rintro D c pre W hD hS ⟨rfl, h1, h2, h3⟩ hK
    have H1 := Lib.hid h1; have H3 := Lib.hid h3; have HK := Lib.hid hK; have HS := Lib.hid hS
    clear h1 h3 hK hS
    gi_wp2
    refine ⟨by simp, .inl ⟨_, _, rfl, run_takeDeferred HK.out, ?_⟩⟩
    refine ⟨_, resultsRet rfl ((World.putObj_heap_other (by omega)).trans H1.out), true, rfl, ?_, ?_⟩
    · obtain ⟨x, hx, e⟩ := h2.out
      exact ⟨fun _ => HS.out.sound s (e ▸ List.mem_map_of_mem hx), fun _ => rfl⟩
    · exact H3.out.grown (grownBy_putObj' _ _ _) H3.out.size (fun k e => by cases e; omega)
end Go.Proofs.YtddlohbhchjjhaaGreatDoor

namespace Go.Proofs.YtddlohbhchjjhaaGreatDoor
open Go.RowKit Go.Maps

theorem infoStr : (Tryz.prog.info? 9).map (fun i => (i.zero, i.size, i.bytes)) = some (some (.string ⟨#[]⟩), 1, 16) := by kernel_rfl
theorem below_none {w w1 : World} (hg : w.grownBy w1 none) : Below w.heap.size w w1 := ⟨hg.os, hg.tape, hg.output, hg.size, fun k hk => hg.block k hk (by simp)⟩
abbrev Ix := Bool × ByteArray
def sli (gd gu : ByteArray → Option Value) (p : Ix) : Value := (if p.1 then gu p.2 else gd p.2).getD (.slice none 0 0)
theorem sli_d (gd gu : ByteArray → Option Value) (s : ByteArray) (v : Value) : sli (upd gd s v) gu = fun p => if p = (false, s) then v else sli gd gu p := by
  funext ⟨b, t⟩
  cases b with
  | true => simp [sli]
  | false =>
    by_cases e : t = s
    · simp [sli, upd, e]
    · simp [sli, upd, e]
theorem sli_u (gd gu : ByteArray → Option Value) (s : ByteArray) (v : Value) : sli gd (upd gu s v) = fun p => if p = (true, s) then v else sli gd gu p := by
  funext ⟨b, t⟩
  cases b with
  | false => simp [sli]
  | true =>
    by_cases e : t = s
    · simp [sli, upd, e]
    · simp [sli, upd, e]
structure Edg (w : World) (bd bu base N : Nat) (gd gu : ByteArray → Option Value) (L : Ix → List ByteArray) : Prop where
  d : Rm w Tryz.prog 9 bd N gd
  u : Rm w Tryz.prog 9 bu N gu
  rows : Grp w base 9 (sli gd gu) L
  len : ∀ p, (L p).length ≤ N
theorem Edg.below {w w' : World} {bd bu base N : Nat} {gd gu : ByteArray → Option Value} {L : Ix → List ByteArray} (h : Edg w bd bu base N gd gu L) (hb : Below w.heap.size w w') : Edg w' bd bu base N gd gu L :=
  ⟨h.d.below hb h.d.lt, h.u.below hb h.u.lt, h.rows.below hb, h.len⟩
theorem Edg.alloc {w : World} {bd bu base N : Nat} {gd gu : ByteArray → Option Value} {L : Ix → List ByteArray} (h : Edg w bd bu base N gd gu L) (o : Obj) : Edg (w.alloc o) bd bu base N gd gu L := h.below ((Below.refl _ w).alloc (Nat.le_refl _) o)
def apL (L : Ix → List ByteArray) (i : Ix) (s : ByteArray) : Ix → List ByteArray := fun j => if j = i then L i ++ [s] else L j
theorem apL_len {L : Ix → List ByteArray} {N : Nat} (h : ∀ p, (L p).length ≤ N) (i : Ix) (s : ByteArray) (p : Ix) : (apL L i s p).length ≤ N + 1 := by
  unfold apL
  split
  · rw [List.length_append]; have := h i; simp; omega
  · have := h p; omega
theorem Edg.stepD {w w1 w2 : World} {bd bu base N : Nat} {gd gu : ByteArray → Option Value} {L : Ix → List ByteArray} (h : Edg w bd bu base N gd gu L) (hlt : bd < base ∧ bu < base ∧ bd ≠ bu) {s x : ByteArray} {g cap : Nat}
    (ho : w1.ownsRow base 9 1 (.slice (some ⟨g, 0, none⟩) ((L (false, s)).length + 1) cap) ((L (false, s)).length + 1) (strs (L (false, s)) ++ [.string x])) (hg : w.grownBy w1 (sli gd gu (false, s)).ownBlock) (hat : (sli gd gu (false, s)).ownBlock = some g ∨ g = w.heap.size)
    (hr : Rm w2 Tryz.prog 9 bd (N + 1) (upd gd s (.slice (some ⟨g, 0, none⟩) ((L (false, s)).length + 1) cap))) (hg2 : w1.grownBy w2 (some bd)) :
    Edg w2 bd bu base (N + 1) (upd gd s (.slice (some ⟨g, 0, none⟩) ((L (false, s)).length + 1) cap)) gu (apL L (false, s) x) := by
  have hne : ∀ b, b < base → some b ≠ (sli gd gu (false, s)).ownBlock := fun b hb e => by have := ((h.rows.own (false, s)).lt b e.symm).1; omega
  refine ⟨hr, ((h.u.kept hg (hne bu hlt.2.1)).kept hg2 (fun e => hlt.2.2 (by cases e; rfl))).more (by omega), ?_, apL_len h.len _ _⟩
  rw [sli_d]
  exact (h.rows.app (false, s) ho hg hat).other hg2 hlt.1
theorem Edg.stepU {w w1 w2 : World} {bd bu base N : Nat} {gd gu : ByteArray → Option Value} {L : Ix → List ByteArray} (h : Edg w bd bu base N gd gu L) (hlt : bd < base ∧ bu < base ∧ bd ≠ bu) {s x : ByteArray} {g cap : Nat}
    (ho : w1.ownsRow base 9 1 (.slice (some ⟨g, 0, none⟩) ((L (true, s)).length + 1) cap) ((L (true, s)).length + 1) (strs (L (true, s)) ++ [.string x])) (hg : w.grownBy w1 (sli gd gu (true, s)).ownBlock) (hat : (sli gd gu (true, s)).ownBlock = some g ∨ g = w.heap.size)
    (hr : Rm w2 Tryz.prog 9 bu (N + 1) (upd gu s (.slice (some ⟨g, 0, none⟩) ((L (true, s)).length + 1) cap))) (hg2 : w1.grownBy w2 (some bu)) :
    Edg w2 bd bu base (N + 1) gd (upd gu s (.slice (some ⟨g, 0, none⟩) ((L (true, s)).length + 1) cap)) (apL L (true, s) x) := by
  have hne : ∀ b, b < base → some b ≠ (sli gd gu (true, s)).ownBlock := fun b hb e => by have := ((h.rows.own (true, s)).lt b e.symm).1; omega
  refine ⟨((h.d.kept hg (hne bd hlt.1)).kept hg2 (fun e => hlt.2.2 (by cases e; rfl))).more (by omega), hr, ?_, apL_len h.len _ _⟩
  rw [sli_u]
  exact (h.rows.app (true, s) ho hg hat).other hg2 hlt.2.1
structure EdL (ts : List Tg) (left : ByteArray → Bool) (lab : Option ByteArray) (ds : List ByteArray) (L : Ix → List ByteArray) : Prop where
  d : ∀ s, L (false, s) = if lab = some s then ds.filter (isT ts) else if left s then [] else nxT ts s
  u : ∀ d s, s ∈ L (true, d) ↔ (lab = some s ∧ d ∈ ds.filter (isT ts)) ∨ (lab ≠ some s ∧ left s = false ∧ d ∈ nxT ts s)
theorem nxT_none {ts : List Tg} {s : ByteArray} (h : isT ts s = false) : nxT ts s = [] := by
  unfold nxT; unfold isT at h
  cases hf : findT ts s with
  | none => rfl
  | some t => rw [hf] at h; cases h
theorem EdL.start (ts : List Tg) : EdL ts (isT ts) none [] (fun _ => []) :=
  ⟨fun s => by
    cases h : isT ts s with
    | true => simp
    | false => simp [nxT_none h], fun d s => by
    constructor
    · intro h; cases h
    · rintro (⟨h, _⟩ | ⟨_, h, hd⟩)
      · cases h
      · rw [nxT_none h] at hd; cases hd⟩
theorem EdL.enter {ts : List Tg} {left : ByteArray → Bool} {lab : ByteArray} {L : Ix → List ByteArray} (h : EdL ts left none [] L) (hl : left lab = true) : EdL ts (fun z => left z && !decide (z = lab)) (some lab) [] L :=
  ⟨fun s => by
    rw [h.d s]
    by_cases e : s = lab
    · subst e; simp [hl]
    · simp [e, Ne.symm e], fun d s => by
    rw [h.u d s]
    by_cases e : s = lab
    · subst e; simp [hl]
    · simp [e, Ne.symm e]⟩
theorem EdL.skip {ts : List Tg} {left : ByteArray → Bool} {lab x : ByteArray} {ds : List ByteArray} {L : Ix → List ByteArray} (h : EdL ts left (some lab) ds L) (hx : isT ts x = false) : EdL ts left (some lab) (ds ++ [x]) L := by
  have e : (ds ++ [x]).filter (isT ts) = ds.filter (isT ts) := by simp [hx]
  exact ⟨fun s => by rw [e]; exact h.d s, fun d s => by rw [e]; exact h.u d s⟩
theorem EdL.take {ts : List Tg} {left : ByteArray → Bool} {lab x : ByteArray} {ds : List ByteArray} {L : Ix → List ByteArray} (h : EdL ts left (some lab) ds L) (hx : isT ts x = true) : EdL ts left (some lab) (ds ++ [x]) (apL (apL L (false, lab) x) (true, x) lab) := by
  have e : (ds ++ [x]).filter (isT ts) = ds.filter (isT ts) ++ [x] := by simp [hx]
  refine ⟨fun s => ?_, fun d s => ?_⟩
  · have h1 := h.d s
    rw [e]
    by_cases hs : s = lab
    · subst hs
      simp only [apL, Prod.mk.injEq, Bool.false_eq_true, false_and, if_false, if_true] at h1 ⊢
      rw [h1]
    · have hs' : ¬ (some lab = some s) := fun h => hs (Option.some.inj h).symm
      rw [if_neg hs'] at h1 ⊢
      simp only [apL, Prod.mk.injEq, Bool.false_eq_true, false_and, if_false, true_and, hs]
      exact h1
  · rw [e]
    have h1 := h.u d s
    by_cases hd : d = x
    · subst hd
      have e2 : apL (apL L (false, lab) d) (true, d) lab (true, d) = L (true, d) ++ [lab] := by simp [apL]
      rw [e2, List.mem_append, h1, List.mem_singleton, List.mem_append, List.mem_singleton]
      by_cases hs : s = lab
      · subst hs; simp
      · have hs' : some lab ≠ some s := fun h => hs (Option.some.inj h).symm
        simp [hs, hs']
    · have e2 : apL (apL L (false, lab) x) (true, x) lab (true, d) = L (true, d) := by simp [apL, hd]
      rw [e2, h1, List.mem_append, List.mem_singleton]
      simp [hd]
theorem EdL.leave {ts : List Tg} {left : ByteArray → Bool} {t : Tg} {lab : ByteArray} {L : Ix → List ByteArray} (h : EdL ts left (some lab) t.deps L) (hf : findT ts lab = some t) (hl : left lab = false) : EdL ts left none [] L := by
  have e : nxT ts lab = t.deps.filter (isT ts) := by unfold nxT; rw [hf]
  refine ⟨fun s => ?_, fun d s => ?_⟩
  · rw [h.d s]
    by_cases hs : lab = s
    · subst hs; simp [hl, e]
    · simp [hs]
  · rw [h.u d s]
    by_cases hs : lab = s
    · subst hs; simp [hl, e]
    · simp [hs]
theorem EdL.end_ {ts : List Tg} {left : ByteArray → Bool} {L : Ix → List ByteArray} (h : EdL ts left none [] L) (hl : ∀ s, left s = false) : (∀ s, L (false, s) = nxT ts s) ∧ ∀ d s, s ∈ L (true, d) ↔ d ∈ nxT ts s :=
  ⟨fun s => by rw [h.d s]; simp [hl], fun d s => by rw [h.u d s]; simp [hl]⟩
end Go.Proofs.YtddlohbhchjjhaaGreatDoor
