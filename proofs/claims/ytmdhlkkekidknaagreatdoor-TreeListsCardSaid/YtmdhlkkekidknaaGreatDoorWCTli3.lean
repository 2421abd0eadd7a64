/-
  Lemmas: As in Range2; moreover the iterator knows where memory ends when it is entered (hz), and what a round keeps (Kp) has to be shown of the loop's own record only where that record lies. For graph.reached's walk: laws inside a fence (append onto a queue, a store into a map), and what the iterator and its rounds leave alone. graph.reached's iterator, walked. graph.reached and graph.returns. graph.edges: the labels on which targets depend directly, and those that depend on them. graph.edges, walked. graph.Cycle, walked. A region that draws its order, whose first n operations only add to memory: whatever the order, each operation's value keeps its word (a predicate that abides what is added), and the rest is carried out in the text's order. A region that draws its order, some of whose operations are guarded, and whose first n operations only add to memory: whatever the order, each operation's value keeps its word. As in Stable, with guards. graph.valid. graph.Order. object.Check of a blob. Drawn regions, some of whose values are described, not given. Directories, the paths of build files and of modules. Lists of a known length, taken apart. The program's object.check on valid objects. Comparing digests: digest.Compare and cordwoodref02.Compare.
-/
import Derived.OwnWalkIn
import Derived.Scope
import Derived.ControlIn
import Derived.Test.YtmdhlkkekidknaaGreatDoorProg
import Derived.Sort.LoopGhostIn
import Derived.Maps.OwnIn
import Derived.StillTail
import Derived.WalkKit
import Derived.IntWalk
import Derived.Shelf.Strings.LastIndex
import Derived.Lib.LastIndexByte
import Derived.Deep.QuietTactic
import Derived.BigQuiet
import Derived.Deep.CutRange
import Derived.Test.YtmdhlkkekidknaaGreatDoorWCTli2
import Derived.Test.YtmdhlkkekidknaaGreatDoorWCTli1

namespace Go.Proofs.YtmdhlkkekidknaaGreatDoor
open Go.RowKit

def SeqT {α : Type} (F : Fence) (n : Nat) (P : Program) (g : Nat) (lb : Array Value) (encs : α → Array Value) (Kp St : World → World → Prop) (Pf S Sp : List α → Prop) (hz : Nat) (w : World) : Prop :=
  ∀ (l : Nat) (J Jx : List α → World → Prop) (W : World), Below w.heap.size w W → W.heap.size = hz → (∀ pre A B, J pre A → St A B → J pre B) →
    (∀ pre x W1, Pf (pre ++ [x]) → J pre W1 → YieldAt F (n - 1) P l (encs x) W1 fun e W' =>
      (e = .returned (.bool true) ∧ J (pre ++ [x]) W' ∧ Kp W1 W') ∨ (e = .returned (.bool false) ∧ Jx (pre ++ [x]) W')) →
    J [] W →
    CallsIn F n P g (#[.func (.yield l) #[] #[]] ++ lb) W fun e W' => (∃ v, e = .returned v) ∧ ((∃ xs, S xs ∧ J xs W') ∨ (∃ pre, Sp pre ∧ Jx pre W'))

def Rec2 (D : Nat) (W W' : World) : Prop := W'.heap[D]? = W.heap[D]? ∧ W'.heap[D + 1]? = W.heap[D + 1]?
theorem Rec2.refl (D : Nat) (W : World) : Rec2 D W W := ⟨rfl, rfl⟩
def ownPostT {α : Type} (D : Nat) (Kp : World → World → Prop) (I : List α → World → Prop) (Ix : Code → List α → World → Prop) (xs : List α) (W : World) : Exit → Act → World → Prop
  | .normal, _, W' => Rec2 D W W' ∧ Kp W W' ∧ I xs W'
  | .ret, _, W' => Rec2 D W W' ∧ Ix .ret xs W'
  | .exit id, _, W' => Rec2 D W W' ∧ Ix (.exit id) xs W'
  | .goto t, _, W' => Rec2 D W W' ∧ Ix (.goto t) xs W'
  | .panic _, _, _ => False
  | .outgrown, _, _ => False
variable {F : Fence} {n : Nat} {P : Program}

end Go.Proofs.YtmdhlkkekidknaaGreatDoor

namespace Go.Proofs.YtmdhlkkekidknaaGreatDoor
open Go.RowKit Go.Maps

section
variable {F : Fence} {n' : Nat} {P : Program} {w : World}
theorem wpListIn_append_sl {base size : Nat} {ops : Array Oper} {rest : List Oper} {o : Oper} {a : Act} {Q : Exit → Act → World → Prop} (hgd : o.guard = none) (s x : Operand) (t : TypeId)
    (ho : o.op = .call { callee := .builtin .append, args := #[s, x], argTypes := #[t, t] })
    (e : TypeId) (i : TypeInfo) (z : Value) (bytes : Nat) (ht : P.underlying t = some (.slice e)) (hi : P.info? e = some i) (hz : i.zero = some z)
    (hsize : i.size = size) (hby : i.bytes = bytes) (hzs : z.cells.size = size) (hsz : 0 < size)
    (v : Value) (n : Nat) (xs : List Value) (hs : a.eval s = v) (hown : w.ownsRow base e size v n xs)
    (B : Nat) (A : Option Addr) (m c : Nat) (ys : List Value) (hx : a.eval x = .slice A m c) (hsl : Sl w B size A m ys) (h1 : ∀ u ∈ ys, u.oneCell' = true)
    (h63 : n + m ≤ maxLen) (hbytes : (n + m) * bytes ≤ 140737488355328) (hbase : base ≤ w.heap.size)
    (h : ∀ A' c' w', w'.ownsRow base e size (.slice A' (n + m) c') (n + m) (xs ++ ys) → w.grownBy w' v.ownBlock → n + m ≤ c' → c' ≤ maxLen → wpListIn F n' P ops Q rest (a.put o.dst (.slice A' (n + m) c')) w') : wpListIn F n' P ops Q (o :: rest) a w := by
  refine wpListIn_plain hgd fun K hK => ?_
  obtain ⟨A', c', w', hr, ho', hg, hc1, hc2⟩ := run_append_sl (P := P) t o.type i z bytes ht hi hz hsize hby hzs hsz hown (c := c) hsl h1 h63 hbytes hbase
  unfold Oper.wpIn
  refine ⟨?_, ?_⟩
  · simp [Oper.about, ho, resolve, Target.leads, Sem.run_pure]
  · rw [Oper.semAt_plain F _ _ (by rw [ho]; intro c hc'; cases hc')]
    simp [execOp, ho, resolve, invoke, builtin, hs, hx, hr, Result.andThen]
    exact hK _ _ (h A' c' w' ho' hg hc1 hc2)
end

def isRow (e : TypeId) : Option Obj → Prop
  | some (.cells _ t _) => t = e
  | _ => False
theorem Rm.block {w w' : World} {P : Program} {k : TypeId} {b N : Nat} {g : ByteArray → Option Value} (h : Rm w P k b N g) (hb : w'.heap[b]? = w.heap[b]?) : Rm w' P k b N g := by
  obtain ⟨D, ⟨es, clock, h1, h2⟩, h3⟩ := h
  exact ⟨D, ⟨es, clock, hb.trans h1, h2⟩, h3⟩
end Go.Proofs.YtmdhlkkekidknaaGreatDoor

namespace Go.Proofs.YtmdhlkkekidknaaGreatDoor
open Go.RowKit Go.Maps
attribute [local go_sem] Oper.semAt_some

theorem str_ne {a b : ByteArray} (h : a ≠ b) : (a.toList == b.toList) = false := by
  rw [beq_eq_false_iff_ne]
  intro e
  rw [ByteArray.toList_eq, ByteArray.toList_eq] at e
  exact h (data_inj e)
end Go.Proofs.YtmdhlkkekidknaaGreatDoor

namespace Go.Proofs.YtmdhlkkekidknaaGreatDoor
open Go.RowKit Go.Maps
attribute [local go_sem] Oper.semAt_some

theorem one_grown {w w' : World} {b : Nat} {v : Value} {t : TypeId} {row : Option Nat} (h : w.heap[b]? = some (.cells #[v] t (0, 0))) (hg : w.grownBy w' row) (hr : some b ≠ row) : w'.heap[b]? = some (.cells #[v] t (0, 0)) :=
  (hg.block b (Array.getElem?_eq_some_iff.1 h).1 hr).trans h
end Go.Proofs.YtmdhlkkekidknaaGreatDoor

namespace Go.Proofs.YtmdhlkkekidknaaGreatDoor
open Go.RowKit Go.Maps

theorem infoStr : (Tryz.prog.info? 9).map (fun i => (i.zero, i.size, i.bytes)) = some (some (.string ⟨#[]⟩), 1, 16) := by kernel_rfl
abbrev Ix := Bool × ByteArray
end Go.Proofs.YtmdhlkkekidknaaGreatDoor

namespace Go.Proofs.YtmdhlkkekidknaaGreatDoor
open Go.RowKit Go.Maps

theorem new_cell (w : World) (t : TypeId) (x : ByteArray) : ∀ j u, [Value.string x][j]? = some u → (w.alloc (.cells #[.string x] t)).cell? (Addr.add ⟨w.heap.size, 0, none⟩ j) = some u := by
  intro j u h
  cases j with
  | zero =>
    have hk : Bk (w.alloc (.cells #[.string x] t)) w.heap.size t #[.string x] := Bk.new w _ _
    have := hk.cell 0
    simp at this h
    subst h
    simp [Addr.add]
  | succ j => simp at h

end Go.Proofs.YtmdhlkkekidknaaGreatDoor

namespace Go.Proofs.YtmdhlkkekidknaaGreatDoor
open Go.RowKit Go.Maps
attribute [local go_sem] Oper.semAt_some

theorem less_str (a b : ByteArray) : Op.bytesLess a.toList b.toList = less a b := by
  rw [ByteArray.toList_eq, ByteArray.toList_eq]; rfl
end Go.Proofs.YtmdhlkkekidknaaGreatDoor

namespace Go.Proofs.YtmdhlkkekidknaaGreatDoor
open Go.RowKit

def putAll (a : Act) : List (Tmp × Value) → Act
  | [] => a
  | p :: r => putAll (a.put (some p.1) p.2) r

theorem put_put (a : Act) (d : Tmp) (v u : Value) : (a.put (some d) v).put (some d) u = a.put (some d) u := by
  simp [Act.put]
theorem putAll_put (a : Act) (d : Tmp) (v : Value) : ∀ (l : List (Tmp × Value)), (∀ p ∈ l, p.1 ≠ d) → putAll (a.put (some d) v) l = (putAll a l).put (some d) v
  | [], _ => rfl
  | p :: l, h => by
    have hne : p.1 ≠ d := h p (by simp)
    show putAll ((a.put (some d) v).put (some p.1) p.2) l = (putAll (a.put (some p.1) p.2) l).put (some d) v
    rw [Act.put_comm a v p.2 (x := some d) (y := some p.1) (fun x hx e => by cases hx; cases e; exact hne rfl)]
    exact putAll_put _ d v l (fun q hq => h q (by simp [hq]))
theorem putAll_set (a : Act) : ∀ (ds : List Tmp) (vs : List Value) (i : Nat) (d : Tmp) (v : Value), ds.Nodup → ds.length = vs.length → ds[i]? = some d →
    putAll a (ds.zip (vs.set i v)) = (putAll a (ds.zip vs)).put (some d) v
  | [], _, _, _, _, _, _, h => by simp at h
  | d0 :: ds, [], _, _, _, _, hl, _ => by simp at hl
  | d0 :: ds, v0 :: vs, 0, d, v, hn, hl, h => by
    simp only [List.getElem?_cons_zero, Option.some.injEq] at h; subst h
    have hnd := List.nodup_cons.1 hn
    have hm : ∀ p ∈ ds.zip vs, p.1 ≠ d0 := fun p hp e => hnd.1 (by have := (List.of_mem_zip hp).1; rwa [e] at this)
    show putAll (a.put (some d0) v) (ds.zip vs) = (putAll (a.put (some d0) v0) (ds.zip vs)).put (some d0) v
    rw [putAll_put _ _ _ _ hm, putAll_put _ _ _ _ hm, put_put]
  | d0 :: ds, v0 :: vs, i + 1, d, v, hn, hl, h => by
    simp only [List.getElem?_cons_succ] at h
    show putAll (a.put (some d0) v0) (ds.zip (vs.set i v)) = (putAll (a.put (some d0) v0) (ds.zip vs)).put (some d) v
    exact putAll_set _ ds vs i d v (List.nodup_cons.1 hn).2 (by simpa using hl) h
theorem put_same (a : Act) (d : Tmp) : a.put (some d) (a.tmps.getD d undef) = a := by
  show ({ a with tmps := a.tmps.setIfInBounds d (a.tmps.getD d undef) } : Act) = a
  have : a.tmps.setIfInBounds d (a.tmps.getD d undef) = a.tmps := ?_
  · rw [this]
  apply Array.ext
  · simp
  · intro i h1 h2
    rw [Array.getElem_setIfInBounds (by simpa using h2)]
    split
    · rename_i e; subst e; simp [show d < a.tmps.size by simpa using h2]
    · rfl
theorem putAll_same (a : Act) : ∀ (ds : List Tmp), putAll a (ds.zip (ds.map fun d => a.tmps.getD d undef)) = a
  | [] => rfl
  | d :: ds => by
    show putAll (a.put (some d) (a.tmps.getD d undef)) _ = a
    rw [put_same]; exact putAll_same a ds

variable {P : Program} {Q : Exit → Act → World → Prop}

def Gives (P : Program) (o : Oper) (a : Act) (w : World) (Ψ : Value → World → Prop) : Prop :=
  ∀ (K : Act → World → Prop) (Q : Exit → Act → World → Prop), (∀ v w', Ψ v w' → K (a.put o.dst v) w') → o.wp P a w K Q

theorem gives_value {o : Oper} {a : Act} {w w' : World} {v : Value} {Ψ : Value → World → Prop} (hr : (execOp a.eval o).run P w = .ok (.value v) w') (h : Ψ v w') : Gives P o a w Ψ := fun K Q hK => by
  unfold Oper.wp; rw [hr]; exact hK v w' h
theorem gives_call {o : Oper} {a : Act} {w : World} {f : FuncId} {args : Array Value} {Ψ : Value → World → Prop} (hr : (execOp a.eval o).run P w = .ok (.enter f args) w)
    (h : Calls P f args w fun e w' => ∃ v, e = .returned v ∧ Ψ v w') : Gives P o a w Ψ := fun K Q hK => by
  unfold Oper.wp; rw [hr]
  exact h.mono fun e w' ⟨v, he, hv⟩ => by subst he; exact hK v w' hv

theorem gives_append {o : Oper} {a : Act} {w w' : World} {r v u : Value} {Ψ : Value → World → Prop} (s x : Operand) (t : TypeId) (ho : o.op = .call { callee := .builtin .append, args := #[s, x], argTypes := #[t, t] })
    (hs : a.eval s = v) (hx : a.eval x = u) (hr : (Builtin.append_ #[t, t] o.type #[v, u]).run P w = .ok r w') (h : Ψ r w') : Gives P o a w Ψ :=
  gives_value (v := r) (w' := w') (by simp [execOp, ho, resolve, invoke, builtin, hs, hx, hr, Result.andThen]) h

def dstsOf (l : List Oper) (n : Nat) : List Tmp := (l.take n).map fun o => o.dst.getD 0
def fullL (l : List Oper) (n : Nat) : Array Bool := ((List.range l.length).map fun i => decide (i < n)).toArray
def stableB (l : List Oper) (n : Nat) : Bool :=
  decide (n < l.length) && Region.sinkB .any l.toArray n && Region.chainB .any l.toArray n && Region.seqB .any l.toArray (l.length - n) n (fullL l n) &&
  (l.take n).all (fun o => o.dst.isSome && o.guard.isNone) && decide (dstsOf l n).Nodup && (List.range n).all (fun i => match l[i]? with | some o => o.after.all (fun e => decide (e.on < i)) | none => false)

theorem count_set_lt {l : List Bool} {i : Nat} (h : l[i]? = some false) : (l.set i true).count false + 1 = l.count false := by
  induction l generalizing i with
  | nil => simp at h
  | cons b l ih =>
    cases i with
    | zero => simp only [List.getElem?_cons_zero, Option.some.injEq] at h; subst h; simp
    | succ i =>
      simp only [List.getElem?_cons_succ] at h
      have := ih h
      cases b <;> simp [List.set_cons_succ] <;> omega

set_option maxHeartbeats 400000 in
theorem wp_region_stable {id : Nat} {l : List Oper} {a0 : Act} {w0 : World} (n : Nat) (hm : P.follows .mixedOrders = true) (hB : stableB l n = true)
    (R : World → Prop) (E : World → World → Prop) (Φ : Nat → Value → World → Prop) (hR : ∀ w w', R w → E w w' → R w') (hΦ : ∀ i v w w', Φ i v w → E w w' → Φ i v w')
    (h0 : R { w0 with drawn := w0.drawn + 1 })
    (hstep : ∀ (i : Nat) (o : Oper) (vs : List Value) (w : World), i < n → l[i]? = some o → vs.length = n → R w → (∀ e ∈ o.after, Region.binds .any e = true → ∀ v, vs[e.on]? = some v → Φ e.on v w) →
      Gives P o (putAll a0 ((dstsOf l n).zip vs)) w fun v w' => E w w' ∧ Φ i v w')
    (htail : ∀ (vs : List Value) (w : World), vs.length = n → R w → (∀ i v, vs[i]? = some v → Φ i v w) → wpList P l.toArray Q (l.drop n) (putAll a0 ((dstsOf l n).zip vs)) w) :
    (Code.region id l.toArray true).wp P Q a0 w0 := by
  simp only [stableB, Bool.and_eq_true, decide_eq_true_eq, List.all_eq_true] at hB
  obtain ⟨⟨⟨⟨⟨⟨hn, hs⟩, hc⟩, hseq⟩, hdst⟩, hnd⟩, hback⟩ := hB
  have hdl : (dstsOf l n).length = n := by simp [dstsOf]; omega
  refine wp_region_any hm ?_
  -- the state: which operations have been carried out, what the temporaries hold
  have main : ∀ (f : Nat) (listed : Array Bool) (vs : List Value) (w : World), HeadInv .any l.toArray n listed → vs.length = n → R w →
      (∀ i v, i < n → listed.getD i false = true → vs[i]? = some v → Φ i v w) → (listed.toList.take n).count false = f →
      wpAny P .any l.toArray Q (f + (l.length - n)) listed (putAll a0 ((dstsOf l n).zip vs)) w := by
    intro f
    induction f with
    | zero =>
      intro listed vs w inv hv hw hphi hcnt
      have hall : ∀ i, i < n → listed.getD i false = true := by
        intro i hi
        have hsz : i < listed.size := by rw [inv.size]; simp; omega
        have hmem : listed.toList[i]? = some listed[i] := by simp [hsz]
        have hne : listed[i] ≠ false := by
          intro e
          have hm2 : false ∈ listed.toList.take n := by
            rw [List.mem_take_iff_getElem]
            exact ⟨i, by simp; omega, by simpa using e⟩
          have := List.count_pos_iff.2 hm2
          omega
        simp [hsz]; simpa using hne
      have hfull : listed = fullL l n := by
        apply Array.ext
        · rw [inv.size]; simp [fullL]
        · intro i h1 h2
          have hil : i < l.length := by rw [inv.size] at h1; simpa using h1
          simp only [fullL, List.getElem_toArray, List.getElem_map, List.getElem_range]
          by_cases hi : i < n
          · have := hall i hi; simp [h1] at this; simp [this, hi]
          · have := inv.tail i (by omega) (by simpa using hil); simp [h1] at this; simp [this, hi]
      subst hfull
      have hw' := htail vs w hv hw (fun i v hi => hphi i v (by have := (List.getElem?_eq_some_iff.1 hi).1; omega) (hall i (by have := (List.getElem?_eq_some_iff.1 hi).1; omega)) hi)
      have := wpAny_of_seq (md := .any) (Q' := Q) (l.drop n) n (fullL l n) _ w (fun j => by simp [List.getElem?_drop]) (by rw [List.length_drop]; exact hseq) hw'
      rw [List.length_drop] at this
      simpa using this
    | succ f ih =>
      intro listed vs w inv hv hw hphi hcnt
      have hun : ∃ i, i < n ∧ listed.getD i true = false := by
        have : 0 < (listed.toList.take n).count false := by omega
        have hm2 := List.count_pos_iff.1 this
        rw [List.mem_take_iff_getElem] at hm2
        obtain ⟨i, hi, hv2⟩ := hm2
        refine ⟨i, by simp at hi; omega, ?_⟩
        have hsz : i < listed.size := by simp at hi; omega
        rw [Array.getD_eq_getD_getElem?, Array.getElem?_eq_getElem hsz]; simpa using hv2
      rw [show f + 1 + (l.length - n) = (f + (l.length - n)) + 1 by omega]
      obtain ⟨i0, hi0, hu0⟩ := hun
      have hready_lt : ∀ i ∈ Region.ready .any l.toArray listed, i < n := by
        intro i hi
        rcases Nat.lt_or_ge i n with h | h
        · exact h
        · exact absurd hi (tail_waits hs hc (by simpa using hn) inv _ i0 rfl hi0 hu0 i h)
      have hne : Region.ready .any l.toArray listed ≠ [] := by
        -- the first operation that is not yet carried out and whose own conditions are all met: by the least such index
        intro hnil
        obtain ⟨m, hm1, hm2⟩ : ∃ m, (m < n ∧ listed.getD m true = false) ∧ ∀ k, k < m → ¬ (k < n ∧ listed.getD k true = false) := by
          have : ∀ m, (m < n ∧ listed.getD m true = false) → ∃ m, (m < n ∧ listed.getD m true = false) ∧ ∀ k, k < m → ¬ (k < n ∧ listed.getD k true = false) := by
            intro m
            induction m using Nat.strongRecOn with
            | _ m ihm =>
              intro h
              by_cases hex : ∃ k, k < m ∧ (k < n ∧ listed.getD k true = false)
              · obtain ⟨k, hk, hk2⟩ := hex; exact ihm k hk hk2
              · exact ⟨m, h, fun k hk hk2 => hex ⟨k, hk, hk2⟩⟩
          exact this i0 ⟨hi0, hu0⟩
        have hml : m < l.length := by omega
        have hmo : l[m]? = some l[m] := List.getElem?_eq_getElem hml
        have hb1 := hback m (List.mem_range.2 hm1.1)
        rw [hmo] at hb1
        simp only at hb1
        have hmr : m ∈ Region.ready .any l.toArray listed := by
          refine mem_ready.2 ⟨hm1.2, l[m], by simp, fun e he _ => ?_⟩
          have hlt : e.on < m := by
            have := (Array.all_eq_true_iff_forall_mem.1 hb1) e he
            simpa using this
          have hnot := hm2 e.on hlt
          cases hx : listed.getD e.on true with
          | true =>
            have hsz : e.on < listed.size := by rw [inv.size]; simp; omega
            simp [hsz] at hx ⊢; exact hx
          | false => exact absurd ⟨by omega, hx⟩ hnot
        rw [hnil] at hmr; cases hmr
      refine ⟨fun h => absurd h hne, fun i hi => ?_⟩
      have hin := hready_lt i hi
      obtain ⟨hlf, o, ho, hdeps⟩ := mem_ready.1 hi
      have ho' : l[i]? = some o := by simpa using ho
      have hmem : o ∈ l.take n := List.mem_take_iff_getElem.2 ⟨i, (by have := (List.getElem?_eq_some_iff.1 ho').1; omega), (List.getElem?_eq_some_iff.1 ho').2⟩
      have hdo := hdst o hmem
      obtain ⟨d, hd⟩ := Option.isSome_iff_exists.1 hdo.1
      have hg : o.guard = none := by simpa using hdo.2
      have hdi : (dstsOf l n)[i]? = some d := by
        simp [dstsOf, hin, ho', hd]
      have hgive := hstep i o vs w hin ho' hv hw (fun e he hb v hve => by
        have hle := hdeps e he hb
        have hen : e.on < n := by have := (List.getElem?_eq_some_iff.1 hve).1; omega
        exact hphi e.on v hen hle hve)
      unfold wpOp
      simp only [ho, Region.wanted, hg, if_true]
      refine .inl (hgive _ _ fun v w' hvw => ?_)
      rw [hd, ← putAll_set a0 (dstsOf l n) vs i d v hnd (by rw [hdl, hv]) hdi]
      have hsz : i < listed.size := by rw [inv.size]; simp; omega
      have hli : listed.toList[i]? = some false := by
        simp [hsz] at hlf ⊢; exact hlf
      refine ih (listed.setIfInBounds i true) (vs.set i v) w' (inv.set hi hin) (by simpa using hv) (hR w w' hw hvw.1) ?_ ?_
      · intro j u hj hlj huj
        by_cases e : j = i
        · subst e
          have hjl : j < vs.length := by omega
          rw [List.getElem?_set_self hjl] at huj
          cases huj; exact hvw.2
        · rw [List.getElem?_set_ne (fun h => e h.symm)] at huj
          rw [getD_set_ne false (fun h => e h.symm)] at hlj
          exact hΦ j u w w' (hphi j u hj hlj huj) hvw.1
      · have : (listed.setIfInBounds i true).toList.take n = (listed.toList.take n).set i true := by
          rw [Array.toList_setIfInBounds, List.take_set]
        rw [this]
        have h2 := count_set_lt (l := listed.toList.take n) (i := i) (by rw [List.getElem?_take, if_pos hin]; exact hli)
        omega
  have inv0 : HeadInv .any l.toArray n (Array.replicate l.toArray.size false) :=
    ⟨by simp, fun j oj _ hl => (by rw [getD_replicate_false] at hl; cases hl), fun t _ ht => getD_in (by simpa using ht) (getD_replicate_false _ _)⟩
  have := main n (Array.replicate l.toArray.size false) ((dstsOf l n).map fun d => a0.tmps.getD d undef) _ inv0 (by simpa using hdl) h0
    (fun i v _ hl _ => by rw [getD_replicate_false] at hl; cases hl) (by simp; omega)
  rw [putAll_same, show n + (l.length - n) = l.toArray.size by simp; omega] at this
  exact this
theorem wp_region_stableD {id : Nat} {l : List Oper} {a0 : Act} {w0 : World} (n : Nat) (ds : List Tmp) (hm : P.follows .mixedOrders = true) (hB : stableB l n = true) (hds : dstsOf l n = ds)
    (R : World → Prop) (E : World → World → Prop) (Φ : Nat → Value → World → Prop) (hR : ∀ w w', R w → E w w' → R w') (hΦ : ∀ i v w w', Φ i v w → E w w' → Φ i v w')
    (h0 : R w0.drew)
    (hstep : ∀ (i : Nat) (o : Oper) (vs : List Value) (w : World), i < n → l[i]? = some o → vs.length = n → R w → (∀ e ∈ o.after, Region.binds .any e = true → ∀ v, vs[e.on]? = some v → Φ e.on v w) →
      Gives P o (putAll a0 (ds.zip vs)) w fun v w' => E w w' ∧ Φ i v w')
    (htail : ∀ (vs : List Value) (w : World), vs.length = n → R w → (∀ i v, vs[i]? = some v → Φ i v w) → wpList P l.toArray Q (l.drop n) (putAll a0 (ds.zip vs)) w) :
    (Code.region id l.toArray true).wp P Q a0 w0 := by
  subst hds
  exact wp_region_stable n hm hB R E Φ hR hΦ h0 hstep htail
end Go.Proofs.YtmdhlkkekidknaaGreatDoor

namespace Go.Proofs.YtmdhlkkekidknaaGreatDoor
open Go.RowKit
variable {P : Program} {Q : Exit → Act → World → Prop}

def GivesG (P : Program) (ops : Array Oper) (o : Oper) (a : Act) (w : World) (Ψ : Value → World → Prop) : Prop :=
  (Region.wanted o (yielded ops a.tmps) = true ∧ Gives P o a w Ψ) ∨ (Region.wanted o (yielded ops a.tmps) = false ∧ Ψ undef w)
def stableGB (l : List Oper) (n : Nat) : Bool :=
  decide (n < l.length) && Region.sinkB .any l.toArray n && Region.chainB .any l.toArray n && Region.seqB .any l.toArray (l.length - n) n (fullL l n) &&
  (l.take n).all (fun o => o.dst.isSome) && decide (dstsOf l n).Nodup && (List.range n).all (fun i => match l[i]? with | some o => o.after.all (fun e => decide (e.on < i)) | none => false)

set_option maxHeartbeats 400000 in
theorem wp_region_stableG {id : Nat} {l : List Oper} {a0 : Act} {w0 : World} (n : Nat) (hm : P.follows .mixedOrders = true) (hB : stableGB l n = true)
    (R : World → Prop) (E : World → World → Prop) (Φ : Nat → Value → World → Prop) (hR : ∀ w w', R w → E w w' → R w') (hΦ : ∀ i v w w', Φ i v w → E w w' → Φ i v w')
    (h0 : R { w0 with drawn := w0.drawn + 1 })
    (hstep : ∀ (i : Nat) (o : Oper) (vs : List Value) (w : World), i < n → l[i]? = some o → vs.length = n → R w → (∀ e ∈ o.after, Region.binds .any e = true → ∀ v, vs[e.on]? = some v → Φ e.on v w) →
      GivesG P l.toArray o (putAll a0 ((dstsOf l n).zip vs)) w fun v w' => E w w' ∧ Φ i v w')
    (htail : ∀ (vs : List Value) (w : World), vs.length = n → R w → (∀ i v, vs[i]? = some v → Φ i v w) → wpList P l.toArray Q (l.drop n) (putAll a0 ((dstsOf l n).zip vs)) w) :
    (Code.region id l.toArray true).wp P Q a0 w0 := by
  simp only [stableGB, Bool.and_eq_true, decide_eq_true_eq, List.all_eq_true] at hB
  obtain ⟨⟨⟨⟨⟨⟨hn, hs⟩, hc⟩, hseq⟩, hdst⟩, hnd⟩, hback⟩ := hB
  have hdl : (dstsOf l n).length = n := by simp [dstsOf]; omega
  refine wp_region_any hm ?_
  -- the state: which operations have been carried out, what the temporaries hold
  have main : ∀ (f : Nat) (listed : Array Bool) (vs : List Value) (w : World), HeadInv .any l.toArray n listed → vs.length = n → R w →
      (∀ i v, i < n → listed.getD i false = true → vs[i]? = some v → Φ i v w) → (listed.toList.take n).count false = f →
      wpAny P .any l.toArray Q (f + (l.length - n)) listed (putAll a0 ((dstsOf l n).zip vs)) w := by
    intro f
    induction f with
    | zero =>
      intro listed vs w inv hv hw hphi hcnt
      have hall : ∀ i, i < n → listed.getD i false = true := by
        intro i hi
        have hsz : i < listed.size := by rw [inv.size]; simp; omega
        have hmem : listed.toList[i]? = some listed[i] := by simp [hsz]
        have hne : listed[i] ≠ false := by
          intro e
          have hm2 : false ∈ listed.toList.take n := by
            rw [List.mem_take_iff_getElem]
            exact ⟨i, by simp; omega, by simpa using e⟩
          have := List.count_pos_iff.2 hm2
          omega
        simp [hsz]; simpa using hne
      have hfull : listed = fullL l n := by
        apply Array.ext
        · rw [inv.size]; simp [fullL]
        · intro i h1 h2
          have hil : i < l.length := by rw [inv.size] at h1; simpa using h1
          simp only [fullL, List.getElem_toArray, List.getElem_map, List.getElem_range]
          by_cases hi : i < n
          · have := hall i hi; simp [h1] at this; simp [this, hi]
          · have := inv.tail i (by omega) (by simpa using hil); simp [h1] at this; simp [this, hi]
      subst hfull
      have hw' := htail vs w hv hw (fun i v hi => hphi i v (by have := (List.getElem?_eq_some_iff.1 hi).1; omega) (hall i (by have := (List.getElem?_eq_some_iff.1 hi).1; omega)) hi)
      have := wpAny_of_seq (md := .any) (Q' := Q) (l.drop n) n (fullL l n) _ w (fun j => by simp [List.getElem?_drop]) (by rw [List.length_drop]; exact hseq) hw'
      rw [List.length_drop] at this
      simpa using this
    | succ f ih =>
      intro listed vs w inv hv hw hphi hcnt
      have hun : ∃ i, i < n ∧ listed.getD i true = false := by
        have : 0 < (listed.toList.take n).count false := by omega
        have hm2 := List.count_pos_iff.1 this
        rw [List.mem_take_iff_getElem] at hm2
        obtain ⟨i, hi, hv2⟩ := hm2
        refine ⟨i, by simp at hi; omega, ?_⟩
        have hsz : i < listed.size := by simp at hi; omega
        rw [Array.getD_eq_getD_getElem?, Array.getElem?_eq_getElem hsz]; simpa using hv2
      rw [show f + 1 + (l.length - n) = (f + (l.length - n)) + 1 by omega]
      obtain ⟨i0, hi0, hu0⟩ := hun
      have hready_lt : ∀ i ∈ Region.ready .any l.toArray listed, i < n := by
        intro i hi
        rcases Nat.lt_or_ge i n with h | h
        · exact h
        · exact absurd hi (tail_waits hs hc (by simpa using hn) inv _ i0 rfl hi0 hu0 i h)
      have hne : Region.ready .any l.toArray listed ≠ [] := by
        -- the first operation that is not yet carried out and whose own conditions are all met: by the least such index
        intro hnil
        obtain ⟨m, hm1, hm2⟩ : ∃ m, (m < n ∧ listed.getD m true = false) ∧ ∀ k, k < m → ¬ (k < n ∧ listed.getD k true = false) := by
          have : ∀ m, (m < n ∧ listed.getD m true = false) → ∃ m, (m < n ∧ listed.getD m true = false) ∧ ∀ k, k < m → ¬ (k < n ∧ listed.getD k true = false) := by
            intro m
            induction m using Nat.strongRecOn with
            | _ m ihm =>
              intro h
              by_cases hex : ∃ k, k < m ∧ (k < n ∧ listed.getD k true = false)
              · obtain ⟨k, hk, hk2⟩ := hex; exact ihm k hk hk2
              · exact ⟨m, h, fun k hk hk2 => hex ⟨k, hk, hk2⟩⟩
          exact this i0 ⟨hi0, hu0⟩
        have hml : m < l.length := by omega
        have hmo : l[m]? = some l[m] := List.getElem?_eq_getElem hml
        have hb1 := hback m (List.mem_range.2 hm1.1)
        rw [hmo] at hb1
        simp only at hb1
        have hmr : m ∈ Region.ready .any l.toArray listed := by
          refine mem_ready.2 ⟨hm1.2, l[m], by simp, fun e he _ => ?_⟩
          have hlt : e.on < m := by
            have := (Array.all_eq_true_iff_forall_mem.1 hb1) e he
            simpa using this
          have hnot := hm2 e.on hlt
          cases hx : listed.getD e.on true with
          | true =>
            have hsz : e.on < listed.size := by rw [inv.size]; simp; omega
            simp [hsz] at hx ⊢; exact hx
          | false => exact absurd ⟨by omega, hx⟩ hnot
        rw [hnil] at hmr; cases hmr
      refine ⟨fun h => absurd h hne, fun i hi => ?_⟩
      have hin := hready_lt i hi
      obtain ⟨hlf, o, ho, hdeps⟩ := mem_ready.1 hi
      have ho' : l[i]? = some o := by simpa using ho
      have hmem : o ∈ l.take n := List.mem_take_iff_getElem.2 ⟨i, (by have := (List.getElem?_eq_some_iff.1 ho').1; omega), (List.getElem?_eq_some_iff.1 ho').2⟩
      have hdo := hdst o hmem
      obtain ⟨d, hd⟩ := Option.isSome_iff_exists.1 hdo
      have hdi : (dstsOf l n)[i]? = some d := by
        simp [dstsOf, hin, ho', hd]
      have hgive := hstep i o vs w hin ho' hv hw (fun e he hb v hve => by
        have hle := hdeps e he hb
        have hen : e.on < n := by have := (List.getElem?_eq_some_iff.1 hve).1; omega
        exact hphi e.on v hen hle hve)
      have hgo : ∀ v w', (E w w' ∧ Φ i v w') → wpAny P .any l.toArray Q (f + (l.length - n)) (listed.setIfInBounds i true) ((putAll a0 ((dstsOf l n).zip vs)).put o.dst v) w' := ?hgo
      case hgo =>
        intro v w' hvw
        rw [hd, ← putAll_set a0 (dstsOf l n) vs i d v hnd (by rw [hdl, hv]) hdi]
        have hsz : i < listed.size := by rw [inv.size]; simp; omega
        have hli : listed.toList[i]? = some false := by
          simp [hsz] at hlf ⊢; exact hlf
        refine ih (listed.setIfInBounds i true) (vs.set i v) w' (inv.set hi hin) (by simpa using hv) (hR w w' hw hvw.1) ?_ ?_
        · intro j u hj hlj huj
          by_cases e : j = i
          · subst e
            have hjl : j < vs.length := by omega
            rw [List.getElem?_set_self hjl] at huj
            cases huj; exact hvw.2
          · rw [List.getElem?_set_ne (fun h => e h.symm)] at huj
            rw [getD_set_ne false (fun h => e h.symm)] at hlj
            exact hΦ j u w w' (hphi j u hj hlj huj) hvw.1
        · have : (listed.setIfInBounds i true).toList.take n = (listed.toList.take n).set i true := by
            rw [Array.toList_setIfInBounds, List.take_set]
          rw [this]
          have h2 := count_set_lt (l := listed.toList.take n) (i := i) (by rw [List.getElem?_take, if_pos hin]; exact hli)
          omega
      unfold wpOp
      simp only [ho]
      rcases hgive with ⟨hw1, hw2⟩ | ⟨hw1, hw2⟩
      · rw [if_pos hw1]
        exact .inl (hw2 _ _ hgo)
      · rw [if_neg (by rw [hw1]; simp)]
        exact hgo undef w hw2
  have inv0 : HeadInv .any l.toArray n (Array.replicate l.toArray.size false) :=
    ⟨by simp, fun j oj _ hl => (by rw [getD_replicate_false] at hl; cases hl), fun t _ ht => getD_in (by simpa using ht) (getD_replicate_false _ _)⟩
  have := main n (Array.replicate l.toArray.size false) ((dstsOf l n).map fun d => a0.tmps.getD d undef) _ inv0 (by simpa using hdl) h0
    (fun i v _ hl _ => by rw [getD_replicate_false] at hl; cases hl) (by simp; omega)
  rw [putAll_same, show n + (l.length - n) = l.toArray.size by simp; omega] at this
  exact this
theorem wp_region_stableGD {id : Nat} {l : List Oper} {a0 : Act} {w0 : World} (n : Nat) (ds : List Tmp) (hm : P.follows .mixedOrders = true) (hB : stableGB l n = true) (hds : dstsOf l n = ds)
    (R : World → Prop) (E : World → World → Prop) (Φ : Nat → Value → World → Prop) (hR : ∀ w w', R w → E w w' → R w') (hΦ : ∀ i v w w', Φ i v w → E w w' → Φ i v w')
    (h0 : R w0.drew)
    (hstep : ∀ (i : Nat) (o : Oper) (vs : List Value) (w : World), i < n → l[i]? = some o → vs.length = n → R w → (∀ e ∈ o.after, Region.binds .any e = true → ∀ v, vs[e.on]? = some v → Φ e.on v w) →
      GivesG P l.toArray o (putAll a0 (ds.zip vs)) w fun v w' => E w w' ∧ Φ i v w')
    (htail : ∀ (vs : List Value) (w : World), vs.length = n → R w → (∀ i v, vs[i]? = some v → Φ i v w) → wpList P l.toArray Q (l.drop n) (putAll a0 (ds.zip vs)) w) :
    (Code.region id l.toArray true).wp P Q a0 w0 := by
  subst hds
  exact wp_region_stableG n hm hB R E Φ hR hΦ h0 hstep htail
def vPhi (vals : List Value) (i : Nat) (v : Value) (_ : World) : Prop := ∀ u, vals[i]? = some u → v = u
end Go.Proofs.YtmdhlkkekidknaaGreatDoor

namespace Go.Proofs.YtmdhlkkekidknaaGreatDoor
open Go.RowKit Go.Maps

theorem le_not_less {a b : ByteArray} {le : Bool} (h : (Op.bytesLess a.toList b.toList || a.toList == b.toList) = le) : less b a = !le := by
  rw [less_str, str_dec] at h
  subst h
  by_cases e : a = b
  · subst e; simp [lessB_irrefl]
  · simp only [e, decide_false, Bool.or_false]
    cases h1 : less a b with
    | true => rw [lessB_asymm h1]; rfl
    | false =>
      cases h2 : less b a with
      | true => rfl
      | false => exact absurd (lessB_conn h1 h2) e

end Go.Proofs.YtmdhlkkekidknaaGreatDoor

namespace Go.Proofs.YtmdhlkkekidknaaGreatDoor
open Go.RowKit Go.Maps

def pG (l : List ByteArray) : ByteArray → Option Value := fun s => if memB l s then some (.bool true) else none
theorem pG_nil : pG [] = fun _ => none := by funext s; simp [pG, memB]
theorem pG_snoc (l : List ByteArray) (x : ByteArray) : pG (l ++ [x]) = upd (pG l) x (.bool true) := by
  funext t
  unfold pG upd memB
  by_cases e : t = x
  · subst e; simp
  · have h : ((l ++ [x]).any fun y => decide (y = t)) = l.any fun y => decide (y = t) := by
      rw [List.any_append]; simp [Ne.symm e]
    rw [h, if_neg e]
theorem pG_get (l : List ByteArray) (x : ByteArray) : (pG l x).getD (.bool false) = .bool (memB l x) := by unfold pG; cases memB l x <;> rfl
theorem Apd.grown {w w' : World} {base size n c : Nat} {e : TypeId} {A : Option Addr} {xs : List Value} {row : Option Nat} (h : Apd w base e size A n c xs) (hg : w.grownBy w' row) (hr : ∀ k, row = some k → k < base) : Apd w' base e size A n c xs := by
  rcases h with h | h
  · refine .inl (h.kept hg ?_)
    cases hv : (Value.slice A n c).ownBlock with
    | none => exact .inl rfl
    | some k => exact .inr fun e => by have h1 := ownBlock_ge h k hv; have h2 := hr k e.symm; omega
  · exact .inr h
end Go.Proofs.YtmdhlkkekidknaaGreatDoor

namespace Go.Proofs.YtmdhlkkekidknaaGreatDoor
open Go.RowKit

theorem src_txt (s : ByteArray) (w : World) : Src Tryz.prog 1 9 (.string s) s.size (bc (toL s)) w := Src.ofString (P := Tryz.prog) w Tryz.underlying9 s
theorem infoByt : (Tryz.prog.info? 5).map (fun i => (i.zero, i.size, i.bytes)) = some (some (.int .u8 0), 1, 1) := by kernel_rfl
theorem Txt.far {w : World} {base av n c : Nat} {A : Option Addr} {bs : Bytes} (h : Txt w base av A n c bs) {p : Addr} (hp : p.block = av) (u : Value) : Txt (w.setCell p u) base av A n c bs :=
  ⟨h.len, h.le, h.max, fun h0 => by
    obtain ⟨b, off, e, h1, h2, h3, h4⟩ := h.lies h0
    have hb : (w.setCell p u).heap[b]? = w.heap[b]? := Below.heap_setCell w p u b (by rw [hp]; exact h1.2)
    have ec : ∀ o, (w.setCell p u).cell? ⟨b, o, none⟩ = w.cell? ⟨b, o, none⟩ := fun o => World.cell?_of_block (a := ⟨b, o, none⟩) hb
    have ef : ∀ o, (w.setCell p u).frozen? ⟨b, o, none⟩ = w.frozen? ⟨b, o, none⟩ := fun o => World.frozen?_of_block (a := ⟨b, o, none⟩) hb
    exact ⟨b, off, e, h1, by simpa using h2, fun j hj => (ec _).trans (h3 j hj), fun j hj => ⟨by rw [ec]; exact (h4 j hj).1, (ef _).trans (h4 j hj).2⟩⟩⟩
theorem halt_txt {P : Program} {ops : Array Oper} {rest : List Oper} {o : Oper} {a : Act} {w : World} {Q : Exit → Act → World → Prop} (s x : Operand) (t tx : TypeId) (_ : o.op = .call { callee := .builtin .append, args := #[s, x], argTypes := #[t, tx] })
    (h : Hid (wpList P ops Q (o :: rest) a w)) : wpList P ops Q (o :: rest) a w := h
structure Wrt (w : World) (b base : Nat) (bs : Bytes) : Prop where
  ex : ∃ A c, Bk w b 163 #[.slice A bs.length c, .bool false] ∧ Txt w base b A bs.length c bs
  lt : b < base
  le : base ≤ w.heap.size
theorem Wrt.below {w w' : World} {b base : Nat} {bs : Bytes} (h : Wrt w b base bs) (hb : Below w.heap.size w w') : Wrt w' b base bs := by
  obtain ⟨A, c, h1, h2⟩ := h.ex
  exact ⟨⟨A, c, h1.below hb h1.lt, h2.below hb⟩, h.lt, Nat.le_trans h.le hb.size⟩
def WrtEnd (b base : Nat) (bs : Bytes) (w : World) (e : Ending) (w' : World) : Prop := e = .returned (.tuple #[]) ∧ Wrt w' b base bs ∧ Below b w w' ∧ w.heap.size ≤ w'.heap.size

set_option maxRecDepth 100000 in
set_option maxHeartbeats 2000000 in
theorem wnumber_any (b base k : Nat) (bs : Bytes) (w : World) (h : Wrt w b base bs) (hk : k ≤ 1099511627776) (hn : bs.length ≤ 1000000) :
    Calls Tryz.prog 141 #[.pointer (some ⟨b, 0, none⟩), .int .i64 k] w (WrtEnd b base (bs ++ encN k) w) := by
  have HP := Lib.hid (putInt_any k hk w)
  have H := Lib.hid h
  have hle := encN_len 5 k (by omega)
  obtain ⟨i0, hi, hz0, hz1, hz2⟩ := info_parts infoByt
  have Hi := Lib.hid hi; have Hz0 := Lib.hid hz0; have Hz1 := Lib.hid hz1; have Hz2 := Lib.hid hz2
  clear h hi hz0 hz1 hz2
  go_enter Tryz.func141, Tryz.ntmps141
  go_wp2_with (go_at_call 192; refine HP.out.mono ?_; rintro e w1 ⟨rfl, hb1⟩; refine halt_ ?_)
  refine unhalt ?_
  have H1 := H.out.below hb1
  obtain ⟨A, c, hk1, ht1⟩ := H1.ex
  have hlt := H1.lt; have hbase := H1.le
  have HB1 : Hid (Below b w w1) := hb1.mono (by have := H.out.lt; have := H.out.le; omega)
  have hz1 := hb1.size
  have HK1 := Lib.hid hk1; have HT1 := Lib.hid ht1
  have c0 := HK1.out.cell 0; have c1 := HK1.out.cell 1; have f1 := HK1.out.free 1
  simp at c0 c1
  clear hb1 H1 hk1 ht1
  obtain ⟨W2, hW2⟩ : ∃ W2, w1.setCell ⟨b, 1, none⟩ (.bool false) = W2 := ⟨_, rfl⟩
  have HK2 : Hid (Bk W2 b 163 #[.slice A bs.length c, .bool false]) := by
    rw [← hW2]; have := HK1.out.set 1 (.bool false); show Bk _ _ _ _; simpa using this
  have HT2 : Hid (Txt W2 base b A bs.length c bs) := by rw [← hW2]; exact HT1.out.far rfl _
  have HB2 : Hid (Below b w W2) := by rw [← hW2]; exact HB1.out.setCell (p := ⟨b, 1, none⟩) (Nat.le_refl _) _
  have zW2 : W2.heap.size = w1.heap.size := by rw [← hW2]; simp
  have d0 := HK2.out.cell 0; have g0 := HK2.out.free 0
  simp at d0
  go_wp2_with (at_builtin; refine halt_txt (.tmp 26) (.tmp 27) 161 9 rfl ?_)
  refine unhalt ?_
  refine wpList_append_txt (base := base) (av := b) rfl (.tmp 26) (.tmp 27) 161 9 rfl 5 i0 Tryz.underlying161 Hi.out Hz0.out Hz1.out Hz2.out A bs.length c bs rfl HT2.out (.string (ofL (encN k))) (encN k).length (encN k) rfl (src_txt (ofL (encN k)) _) (by omega) (by omega) (by omega) ?_
  intro A' c' w3 ht3 hb3 hk3
  have HK3 : Hid (Bk w3 b 163 #[.slice A bs.length c, .bool false]) := hk3.trans HK2.out
  have HT3 := Lib.hid ht3
  have HB3 : Hid (Below b w w3) := HB2.out.trans (hb3.mono (by omega))
  have hz3 := hb3.size
  have e0 := HK3.out.cell 0; have e1 := HK3.out.free 0
  simp at e0
  clear ht3 hb3 hk3 d0 g0 c0 c1 f1
  go_wp2_with fail
  go_end0
  have hl : (bs ++ encN k).length = bs.length + (encN k).length := by simp
  refine ⟨rfl, ⟨⟨A', c', ?_, ?_⟩, hlt, by simp; omega⟩, HB3.out.setCell (p := ⟨b, 0, none⟩) (Nat.le_refl _) _, by simp; omega⟩
  · rw [hl]; have := HK3.out.set 0 (.slice A' (bs.length + (encN k).length) c'); show Bk _ _ _ _; simpa using this
  · rw [hl]; exact HT3.out.far rfl _
set_option maxRecDepth 100000 in
set_option maxHeartbeats 2000000 in
theorem wstring_any (b base : Nat) (s : ByteArray) (bs : Bytes) (w : World) (h : Wrt w b base bs) (hk : s.size ≤ 65536) (hn : bs.length ≤ 1000000) :
    Calls Tryz.prog 142 #[.pointer (some ⟨b, 0, none⟩), .string s] w (WrtEnd b base (bs ++ encT (toL s)) w) := by
  have HP := Lib.hid (putText_any s hk w)
  have H := Lib.hid h
  have hle : (encT (toL s)).length ≤ 70000 := by
    have h1 := encN_len 5 s.size (by omega)
    have h2 := size_toL s
    unfold encT; rw [List.length_append, ← h2]; omega
  obtain ⟨i0, hi, hz0, hz1, hz2⟩ := info_parts infoByt
  have Hi := Lib.hid hi; have Hz0 := Lib.hid hz0; have Hz1 := Lib.hid hz1; have Hz2 := Lib.hid hz2
  clear h hi hz0 hz1 hz2
  go_enter Tryz.func142, Tryz.ntmps142
  go_wp2_with (go_at_call 193; refine HP.out.mono ?_; rintro e w1 ⟨rfl, hb1⟩; refine halt_ ?_)
  refine unhalt ?_
  have H1 := H.out.below hb1
  obtain ⟨A, c, hk1, ht1⟩ := H1.ex
  have hlt := H1.lt; have hbase := H1.le
  have HB1 : Hid (Below b w w1) := hb1.mono (by have := H.out.lt; have := H.out.le; omega)
  have hz1 := hb1.size
  have HK1 := Lib.hid hk1; have HT1 := Lib.hid ht1
  have c0 := HK1.out.cell 0; have c1 := HK1.out.cell 1; have f1 := HK1.out.free 1
  simp at c0 c1
  clear hb1 H1 hk1 ht1
  obtain ⟨W2, hW2⟩ : ∃ W2, w1.setCell ⟨b, 1, none⟩ (.bool false) = W2 := ⟨_, rfl⟩
  have HK2 : Hid (Bk W2 b 163 #[.slice A bs.length c, .bool false]) := by
    rw [← hW2]; have := HK1.out.set 1 (.bool false); show Bk _ _ _ _; simpa using this
  have HT2 : Hid (Txt W2 base b A bs.length c bs) := by rw [← hW2]; exact HT1.out.far rfl _
  have HB2 : Hid (Below b w W2) := by rw [← hW2]; exact HB1.out.setCell (p := ⟨b, 1, none⟩) (Nat.le_refl _) _
  have zW2 : W2.heap.size = w1.heap.size := by rw [← hW2]; simp
  have d0 := HK2.out.cell 0; have g0 := HK2.out.free 0
  simp at d0
  go_wp2_with (at_builtin; refine halt_txt (.tmp 25) (.tmp 26) 161 9 rfl ?_)
  refine unhalt ?_
  refine wpList_append_txt (base := base) (av := b) rfl (.tmp 25) (.tmp 26) 161 9 rfl 5 i0 Tryz.underlying161 Hi.out Hz0.out Hz1.out Hz2.out A bs.length c bs rfl HT2.out (.string (ofL (encT (toL s)))) (encT (toL s)).length (encT (toL s)) rfl (src_txt (ofL (encT (toL s))) _) (by omega) (by omega) (by omega) ?_
  intro A' c' w3 ht3 hb3 hk3
  have HK3 : Hid (Bk w3 b 163 #[.slice A bs.length c, .bool false]) := hk3.trans HK2.out
  have HT3 := Lib.hid ht3
  have HB3 : Hid (Below b w w3) := HB2.out.trans (hb3.mono (by omega))
  have hz3 := hb3.size
  have e0 := HK3.out.cell 0; have e1 := HK3.out.free 0
  simp at e0
  clear ht3 hb3 hk3 d0 g0 c0 c1 f1
  go_wp2_with fail
  go_end0
  have hl : (bs ++ encT (toL s)).length = bs.length + (encT (toL s)).length := by simp
  refine ⟨rfl, ⟨⟨A', c', ?_, ?_⟩, hlt, by simp; omega⟩, HB3.out.setCell (p := ⟨b, 0, none⟩) (Nat.le_refl _) _, by simp; omega⟩
  · rw [hl]; have := HK3.out.set 0 (.slice A' (bs.length + (encT (toL s)).length) c'); show Bk _ _ _ _; simpa using this
  · rw [hl]; exact HT3.out.far rfl _
@[go_sem] theorem guardDgo : Tryz.prog.eqGuardType Tryz.prog.depth 30 = false := by kernel_rfl
theorem eqDgo0 (dd : Nat) (a b c d : Int) (w : World) : (Op.equalIn (dd + 2) 30 (.agg #[.int .u64 a, .int .u64 b]) (.agg #[.int .u64 c, .int .u64 d])).run Tryz.prog w = .ok (a == c && b == d) w := by
  have u3 := Tryz.underlying28
  have a3 := Tryz.isAgg28
  have z3 := Tryz.sizeOf28
  rw [Op.equalIn]
  simp only [Sem.run_bind, run_underlying Tryz.underlying30, Result.andThen_ok]
  simp only [Std.Legacy.Range.forIn_eq_forIn_range', Std.Legacy.Range.size, Nat.sub_zero, Nat.add_sub_cancel, Nat.div_one, List.range'_succ, List.range'_zero, List.forIn_cons, List.forIn_nil]
  go_simp
  by_cases h1 : a = c <;> by_cases h2 : b = d <;> simp [h1, h2]
@[go_sem high] theorem eqDgo (a b c d : Int) (w : World) : (Op.equalIn 10000 30 (.agg #[.int .u64 a, .int .u64 b]) (.agg #[.int .u64 c, .int .u64 d])).run Tryz.prog w = .ok (a == c && b == d) w := eqDgo0 9998 a b c d w
def blobC (d : ByteArray) : Array Value := #[.int .i64 1, .string d, .slice none 0 0, .int .u64 0, .int .u64 0, .slice none 0 0, .string ⟨#[]⟩, .int .i64 0, .string ⟨#[]⟩]
theorem resultsBlb {w : World} {a : Array Value} {b : Nat} {d : ByteArray} (ha : a[2]?.getD undef = .pointer (some ⟨b, 0, none⟩)) (h : Bk w b 82 (blobC d)) : (results Tryz.f56 a).run Tryz.prog w = .ok (.agg (blobC d)) w := by
  have c0 := h.cell 0; have c1 := h.cell 1; have c2 := h.cell 2; have c3 := h.cell 3; have c4 := h.cell 4; have c5 := h.cell 5; have c6 := h.cell 6; have c7 := h.cell 7; have c8 := h.cell 8
  simp [blobC] at c0 c1 c2 c3 c4 c5 c6 c7 c8
  simp [results, Tryz.results56, ha, go_sem, blobC, c0, c1, c2, c3, c4, c5, c6, c7, c8]
theorem blob_any (d : ByteArray) (w : World) : Calls Tryz.prog 56 #[.string d] w fun e w' => e = .returned (.agg (blobC d)) ∧ Below w.heap.size w w' := by
  go_enter Tryz.func56, Tryz.ntmps56
  go_wp2
  have hk : Bk (w.alloc (.cells (blobC d) 82)) w.heap.size 82 (blobC d) := Bk.new w _ _
  exact bodyPost_ret (resultsBlb rfl hk) rfl ⟨rfl, (Below.refl _ w).alloc (Nat.le_refl _) _⟩
set_option maxRecDepth 100000 in
set_option maxHeartbeats 2000000 in
theorem ocheck1_any (d : ByteArray) (w : World) : Calls Tryz.prog 140 #[.agg (blobC d)] w fun e w' => e = .returned (.int .i64 0) ∧ Below w.heap.size w w' := by
  unfold blobC
  go_enter Tryz.func140, Tryz.ntmps140
  go_wp2
  all_goals (go_ret; exact ⟨rfl, (Below.refl _ w).alloc (Nat.le_refl _) _⟩)
set_option maxRecDepth 100000 in
set_option maxHeartbeats 2000000 in
theorem oenc_any (d : ByteArray) (w : World) (hd : d.size ≤ 60000) : Calls Tryz.prog 106 #[.agg (blobC d)] w fun e w' => e = .returned (.tuple #[.string (ofL (encN 1 ++ encT (toL d))), .int .i64 0]) ∧ Below w.heap.size w w' := by
  have hsd := size_toL d
  have hle : (encT (toL d)).length ≤ 60006 := by
    have h1 := encN_len 5 d.size (by omega)
    unfold encT; rw [List.length_append, ← hsd]; omega
  have hl1 : (encN 1).length = 1 := by rw [encN_small (by omega)]; rfl
  have HC := fun w => Lib.hid (ocheck1_any d w)
  unfold blobC at HC ⊢
  obtain ⟨W0, hW0⟩ : ∃ W0, w.alloc (.cells #[.int .i64 1, .string d, .slice none 0 0, .int .u64 0, .int .u64 0, .slice none 0 0, .string ⟨#[]⟩, .int .i64 0, .string ⟨#[]⟩] 82) = W0 := ⟨_, rfl⟩
  have HB0 : Hid (Below w.heap.size w W0) := by rw [← hW0]; exact (Below.refl _ w).alloc (Nat.le_refl _) _
  have HK0 : Hid (Bk W0 w.heap.size 82 #[.int .i64 1, .string d, .slice none 0 0, .int .u64 0, .int .u64 0, .slice none 0 0, .string ⟨#[]⟩, .int .i64 0, .string ⟨#[]⟩]) := by rw [← hW0]; exact Bk.new w _ _
  have zW0 : W0.heap.size = w.heap.size + 1 := by rw [← hW0]; simp
  have HC0 := HC W0
  have c0 := HK0.out.cell 0; have c1 := HK0.out.cell 1; have c2 := HK0.out.cell 2; have c3 := HK0.out.cell 3; have c4 := HK0.out.cell 4; have c5 := HK0.out.cell 5; have c6 := HK0.out.cell 6; have c7 := HK0.out.cell 7; have c8 := HK0.out.cell 8
  simp at c0 c1 c2 c3 c4 c5 c6 c7 c8
  clear HC
  go_enter Tryz.func106, Tryz.ntmps106
  go_wp2_with fail
  refine HC0.out.mono ?_
  rintro e w1 ⟨rfl, hb1⟩
  have HB1 : Hid (Below w.heap.size w w1) := HB0.out.trans (hb1.mono (by omega))
  have HK1 := Lib.hid (HK0.out.below hb1 (by omega))
  have hz1 := hb1.size
  clear hb1 hW0 c0 c1 c2 c3 c4 c5 c6 c7 c8 HC0
  obtain ⟨W2, hW2⟩ : ∃ W2, w1.alloc (.cells #[.slice none 0 0, .bool false] 163) = W2 := ⟨_, rfl⟩
  have zW2 : W2.heap.size = w1.heap.size + 1 := by rw [← hW2]; simp
  have HB2 : Hid (Below w1.heap.size w1 W2) := by rw [← hW2]; exact (Below.refl _ w1).alloc (Nat.le_refl _) _
  have HW2 : Hid (Wrt W2 w1.heap.size (w1.heap.size + 1) []) := ⟨⟨none, 0, by rw [← hW2]; exact Bk.new w1 _ _, Txt.nil _ _ _ _⟩, by omega, by omega⟩
  have HK2 := Lib.hid (HK1.out.below HB2.out (by omega))
  have HN := Lib.hid (wnumber_any w1.heap.size (w1.heap.size + 1) 1 [] W2 HW2.out (by omega) (by simp))
  have c0 := HK2.out.cell 0
  simp at c0
  go_wp2_with (go_at_call 141; refine HN.out.mono ?_; rintro e w3 ⟨rfl, hw3, hb3, hz3⟩; refine halt_ ?_)
  refine unhalt ?_
  have HW3 := Lib.hid hw3
  have HB3 : Hid (Below w1.heap.size w1 w3) := HB2.out.trans hb3
  have HK3 := Lib.hid (HK2.out.below hb3 (by omega))
  clear hw3 hb3 hW2 c0 HN
  have HS := Lib.hid (wstring_any w1.heap.size (w1.heap.size + 1) d (([] : Bytes) ++ encN 1) w3 HW3.out (by omega) (by simp [hl1]))
  have c0 := HK3.out.cell 0; have c1 := HK3.out.cell 1
  simp at c0 c1
  go_wp2_with (go_at_call 142; refine HS.out.mono ?_; rintro e w4 ⟨rfl, hw4, hb4, hz4⟩; refine halt_ ?_)
  refine unhalt ?_
  obtain ⟨A, cc, hk4, ht4⟩ := hw4.ex
  rw [List.nil_append] at hk4 ht4
  have hln : (encN 1 ++ encT (toL d)).length ≤ 60007 := by rw [List.length_append, hl1]; omega
  have hlz : ¬ (65536 : Int) < ((encN 1 ++ encT (toL d)).length : Int) := by omega
  have HB4 : Hid (Below w1.heap.size w1 w4) := HB3.out.trans hb4
  have d0 := hk4.cell 0; have d1 := hk4.cell 1
  simp only [List.getElem?_toArray, List.getElem?_cons_zero, List.getElem?_cons_succ] at d0 d1
  have hcv := ht4.run_string (P := Tryz.prog) 161 9 5 Tryz.underlying161 Tryz.underlying5 Tryz.underlying9
  obtain ⟨bs, hbs⟩ : ∃ bs, encN 1 ++ encT (toL d) = bs := ⟨_, rfl⟩
  rw [hbs] at d0 hcv hlz
  have HBS := Lib.hid hbs
  clear hw4 hb4 hk4 ht4 c0 c1 HS hln hbs
  go_wp2_with fail
  go_ret2
  refine ⟨by rw [HBS.out]; rfl, HB1.out.trans (HB4.out.mono (by omega))⟩
set_option maxHeartbeats 1000000 in
theorem ocheck_any (d : ByteArray) (w : World) (hd : d.size ≤ 60000) : Calls Tryz.prog 55 #[.agg (blobC d)] w fun e w' => e = .returned (.int .i64 0) ∧ Below w.heap.size w w' := by
  have HE := fun w => Lib.hid (oenc_any d w hd)
  unfold blobC at HE ⊢
  have HB0 : Hid (Below w.heap.size w (w.alloc (.cells #[.int .i64 1, .string d, .slice none 0 0, .int .u64 0, .int .u64 0, .slice none 0 0, .string ⟨#[]⟩, .int .i64 0, .string ⟨#[]⟩] 82))) := (Below.refl _ w).alloc (Nat.le_refl _) _
  have HE0 := HE (w.alloc (.cells #[.int .i64 1, .string d, .slice none 0 0, .int .u64 0, .int .u64 0, .slice none 0 0, .string ⟨#[]⟩, .int .i64 0, .string ⟨#[]⟩] 82))
  clear HE
  go_enter Tryz.func55, Tryz.ntmps55
  go_wp2_with (go_at_call 106; refine HE0.out.mono ?_; rintro e w1 ⟨rfl, hb1⟩)
  go_ret
  exact ⟨rfl, HB0.out.trans (hb1.mono (by simp))⟩
end Go.Proofs.YtmdhlkkekidknaaGreatDoor

namespace Go.Proofs.YtmdhlkkekidknaaGreatDoor
open Go.RowKit

def gPhi (S : List (Nat × (Value → World → Prop))) (vals : List Value) (i : Nat) (v : Value) (W : World) : Prop :=
  match S.lookup i with
  | some p => p v W
  | none => vPhi vals i v W
theorem lookup_mem {β : Type _} : ∀ {S : List (Nat × β)} {i : Nat} {p : β}, S.lookup i = some p → ∃ x ∈ S, x.2 = p
  | [], i, p, h => by cases h
  | (j, q) :: S, i, p, h => by
    rw [List.lookup_cons] at h
    cases e : i == j with
    | true => rw [e] at h; cases h; exact ⟨_, List.mem_cons_self, rfl⟩
    | false =>
      rw [e] at h
      obtain ⟨x, hx, e⟩ := lookup_mem h
      exact ⟨x, List.mem_cons_of_mem _ hx, e⟩
theorem gPhi_keep {S : List (Nat × (Value → World → Prop))} {vals : List Value} (hS : ∀ x ∈ S, ∀ v W W', x.2 v W → Below W.heap.size W W' → x.2 v W') (i : Nat) (v : Value) (W W' : World) (h : gPhi S vals i v W) (hb : Below W.heap.size W W') : gPhi S vals i v W' := by
  unfold gPhi at h ⊢
  cases e : S.lookup i with
  | none => rw [e] at h; exact h
  | some p =>
    rw [e] at h
    obtain ⟨x, hx, rfl⟩ := lookup_mem e
    exact hS x hx v W W' h hb
end Go.Proofs.YtmdhlkkekidknaaGreatDoor

namespace Go.Proofs.YtmdhlkkekidknaaGreatDoor
open Go.RowKit Go.Maps

theorem wrap_sm {x : Int} (h1 : -9223372036854775808 ≤ x) (h2 : x < 9223372036854775808) : IntKind.i64.wrap x = x := by
  simp [IntKind.wrap, IntKind.bits, IntKind.signed]; omega
end Go.Proofs.YtmdhlkkekidknaaGreatDoor

namespace Go.Proofs.YtmdhlkkekidknaaGreatDoor

theorem ls5 {vs : List Value} (h : vs.length = 5) : ∃ v0 v1 v2 v3 v4, vs = v0 :: v1 :: v2 :: v3 :: v4 :: [] := by
  match vs, h with
  | v0 :: v1 :: v2 :: v3 :: v4 :: [], _ => exact ⟨_, _, _, _, _, rfl⟩
theorem ls7 {vs : List Value} (h : vs.length = 7) : ∃ v0 v1 v2 v3 v4 v5 v6, vs = v0 :: v1 :: v2 :: v3 :: v4 :: v5 :: v6 :: [] := by
  match vs, h with
  | v0 :: v1 :: v2 :: v3 :: v4 :: v5 :: v6 :: [], _ => exact ⟨_, _, _, _, _, _, _, rfl⟩
theorem ls10 {vs : List Value} (h : vs.length = 10) : ∃ v0 v1 v2 v3 v4 v5 v6 v7 v8 v9, vs = v0 :: v1 :: v2 :: v3 :: v4 :: v5 :: v6 :: v7 :: v8 :: v9 :: [] := by
  match vs, h with
  | v0 :: v1 :: v2 :: v3 :: v4 :: v5 :: v6 :: v7 :: v8 :: v9 :: [], _ => exact ⟨_, _, _, _, _, _, _, _, _, _, rfl⟩
theorem ls11 {vs : List Value} (h : vs.length = 11) : ∃ v0 v1 v2 v3 v4 v5 v6 v7 v8 v9 v10, vs = v0 :: v1 :: v2 :: v3 :: v4 :: v5 :: v6 :: v7 :: v8 :: v9 :: v10 :: [] := by
  match vs, h with
  | v0 :: v1 :: v2 :: v3 :: v4 :: v5 :: v6 :: v7 :: v8 :: v9 :: v10 :: [], _ => exact ⟨_, _, _, _, _, _, _, _, _, _, _, rfl⟩
theorem ls12 {vs : List Value} (h : vs.length = 12) : ∃ v0 v1 v2 v3 v4 v5 v6 v7 v8 v9 v10 v11, vs = v0 :: v1 :: v2 :: v3 :: v4 :: v5 :: v6 :: v7 :: v8 :: v9 :: v10 :: v11 :: [] := by
  match vs, h with
  | v0 :: v1 :: v2 :: v3 :: v4 :: v5 :: v6 :: v7 :: v8 :: v9 :: v10 :: v11 :: [], _ => exact ⟨_, _, _, _, _, _, _, _, _, _, _, _, rfl⟩
end Go.Proofs.YtmdhlkkekidknaaGreatDoor

namespace Go.Proofs.YtmdhlkkekidknaaGreatDoor
open Go.RowKit

theorem Sl.en {w : World} {B n k : Nat} {A : Option Addr} {l : List Ent} (h : Sl w B 4 A n (flat enC l)) (hk : k < n) :
    ∃ b off e, A = some ⟨b, off, none⟩ ∧ b < B ∧ l[k]? = some e ∧ w.cell? ⟨b, off + k * 4, none⟩ = some (.string e.nm) ∧ w.cell? ⟨b, off + k * 4 + 1, none⟩ = some (.bool e.dir) ∧ w.cell? ⟨b, off + k * 4 + 2, none⟩ = some (.int .u64 e.dg.1) ∧ w.cell? ⟨b, off + k * 4 + 3, none⟩ = some (.int .u64 e.dg.2) := by
  obtain ⟨b, off, x, e, hb, hx, hc⟩ := h.at_ enC_len (by omega) hk
  exact ⟨b, off, x, e, hb, hx, hc 0 _ rfl, hc 1 _ rfl, hc 2 _ rfl, hc 3 _ rfl⟩
theorem Sl.dg {w : World} {B n k : Nat} {A : Option Addr} {l : List Dig} (h : Sl w B 2 A n (flat dgC l)) (hk : k < n) :
    ∃ b off d, A = some ⟨b, off, none⟩ ∧ b < B ∧ l[k]? = some d ∧ w.cell? ⟨b, off + k * 2, none⟩ = some (.int .u64 d.1) ∧ w.cell? ⟨b, off + k * 2 + 1, none⟩ = some (.int .u64 d.2) := by
  obtain ⟨b, off, x, e, hb, hx, hc⟩ := h.at_ dgC_len (by omega) hk
  exact ⟨b, off, x, e, hb, hx, hc 0 _ rfl, hc 1 _ rfl⟩
theorem dig_eq (x y : Dig) : (x.1 == y.1 && x.2 == y.2) = decide (x = y) := by
  obtain ⟨a, b⟩ := x
  obtain ⟨c, d⟩ := y
  rw [Bool.eq_iff_iff]; simp
theorem dig_nz {x : Dig} (h : x ≠ zD) : (x.1 == 0 && x.2 == 0) = false := by
  have := dig_eq x zD
  rw [decide_eq_false h] at this; exact this
set_option maxRecDepth 100000 in
set_option maxHeartbeats 2000000 in
theorem ocheckEs_any (A : Option Addr) (n c B : Nat) (l : List Ent) (w : World) (h0 : Sl w B 4 A n (flat enC l)) (hB : B ≤ w.heap.size) (hok : OkEs l) :
    Calls Tryz.prog 190 #[.slice A n c] w fun e w' => e = .returned (.int .i64 0) ∧ Below w.heap.size w w' := by
  have HL := Lib.hid (h0.len enC_len (by omega))
  have H0 := Lib.hid h0
  have hn : n ≤ 200 := by rw [← HL.out]; exact hok.few
  have HA := Lib.hid hok.all; have HS := Lib.hid hok.asc
  clear h0 hok
  have hnz : ¬ (200 : Int) < (n : Int) := by omega
  go_enter Tryz.func190, Tryz.ntmps190
  go_wp2_with fail
  go_loopw [10] (fun i wr => ∃ k : Nat, i = .int .i64 (k : Int) ∧ k ≤ n ∧ Hid (Below w.heap.size w wr)) (fun i _ => n - (intOf i).toNat)
  case atStart => exact ⟨0, rfl, Nat.zero_le _, Below.refl _ _⟩
  case round =>
    obtain ⟨k, rfl, hk, hbw⟩ := hrel
    have zwr := hbw.out.size
    by_cases hlt : k < n
    · have hlz : (k : Int) < (n : Int) := by omega
      obtain ⟨bb, off, en, rfl, hbB, he, y0, y1, y2, y3⟩ := (H0.out.below hbw.out hB).en hlt
      have HE := Lib.hid he
      have HOE := Lib.hid (HA.out en (List.mem_of_getElem? he))
      obtain ⟨wb, hwb⟩ : ∃ wb, wr.alloc (.cells #[.string en.nm, .bool en.dir, .int .u64 en.dg.1, .int .u64 en.dg.2] 102) = wb := ⟨_, rfl⟩
      have HBb : Hid (Below wr.heap.size wr wb) := by rw [← hwb]; exact (Below.refl _ wr).alloc (Nat.le_refl _) _
      have HKb : Hid (Bk wb wr.heap.size 102 #[.string en.nm, .bool en.dir, .int .u64 en.dg.1, .int .u64 en.dg.2]) := by rw [← hwb]; exact Bk.new wr _ _
      have HBw : Hid (Below w.heap.size w wb) := hbw.out.trans (HBb.out.mono zwr)
      have hns := nameB_size HOE.out.nm
      have hnm := HOE.out.nm
      have hdz := dig_nz HOE.out.nz
      have zwb : wb.heap.size = wr.heap.size + 1 := by rw [← hwb]; simp
      have HNX : Hid (∀ j, k = j + 1 → ∃ p, Hid (Op.bytesLess en.nm.toList p.toList = false ∧ (en.nm.toList == p.toList) = false) ∧ wb.cell? ⟨bb, off + j * 4, none⟩ = some (.string p)) := by
        intro j hj
        obtain ⟨bb', off', p, hpe, _, hp, z0, _⟩ := (H0.out.below HBw.out hB).en (k := j) (by omega)
        cases hpe
        have hl := HS.out j p en hp (by rw [← hj]; exact HE.out)
        refine ⟨p.nm, ⟨(less_str _ _).trans ?_, str_ne fun e => ?_⟩, z0⟩
        · cases hx : less en.nm p.nm with
          | false => rfl
          | true => have := lessB_trans hl hx; rw [lessB_irrefl] at this; cases this
        · rw [e, lessB_irrefl] at hl; cases hl
      have x0 := HKb.out.cell 0; have x2 := HKb.out.cell 2; have x3 := HKb.out.cell 3
      simp at x0 x2 x3
      have x0' := x0
      rw [← hwb] at x0'
      have HWb := Lib.hid hwb
      clear hwb he
      obtain ⟨nm, dir, d1, d2⟩ := en
      simp only at hns hnm hdz y0 y1 y2 y3 x0 x2 x3 x0' HWb HKb HNX
      go_upto_region 8 with (first | (go_at_call 98; refine (vname_any nm _ (by unfold maxLen; omega)).mono ?_; rintro e w1 ⟨rfl, rfl⟩; rw [hnm]))
      rw [HWb.out]
      clear x0'
      go_cut [20] from 21 to 33 (fun f wx => f = .bool false ∧ Hid (Below wb.heap.size wb wx))
      case first =>
        cases k with
        | zero =>
          go_quiet (fail)
          simp only [Exit.then]
          go_step
          go_meet
          exact ⟨rfl, below_drewN (Below.refl _ _) _⟩
        | succ j =>
          obtain ⟨p, HP, z0⟩ := HNX.out j rfl
          have hkp : (0 : Int) < ((j + 1 : Nat) : Int) := by omega
          have hw1 : IntKind.i64.wrap (((j + 1 : Nat) : Int) - 1) = (j : Int) := by rw [wrap_sm (by omega) (by omega)]; omega
          have hj1 : ¬ (j : Int) < 0 := by omega
          have hj2 : (j : Int) < (n : Int) := by omega
          obtain ⟨hp, hp'⟩ := HP.out
          go_quiet (fail)
          simp only [Exit.then]
          go_step
          go_meet
          exact ⟨rfl, below_drewN (Below.refl _ _) _⟩
      case rest =>
        obtain ⟨rfl, HBc⟩ := hcut
        have HBwc : Hid (Below w.heap.size w wc) := HBw.out.trans (HBc.out.mono HBw.out.size)
        have HKc := Lib.hid (HKb.out.below HBc.out HKb.out.lt)
        clear x0 x2 x3 y0 y1 y2 y3
        have x2 := HKc.out.cell 2; have x3 := HKc.out.cell 3
        simp at x2 x3
        go_wp2_with fail
        go_roundw
        case rel => exact ⟨k + 1, by go_num, hlt, HBwc.out⟩
        case measure => simp [intOf]; omega
    · have hlz : ¬ (k : Int) < (n : Int) := by omega
      go_wp2_with fail
      go_ret
      exact ⟨rfl, hbw.out⟩
set_option maxRecDepth 100000 in
set_option maxHeartbeats 2000000 in
theorem indexD_any (A : Option Addr) (n c B : Nat) (l : List Dig) (d : Dig) (w : World) (h0 : Sl w B 2 A n (flat dgC l)) (hB : B ≤ w.heap.size) (hn : n ≤ 1000000) :
    Calls Tryz.prog 218 #[.slice A n c, digV d] w fun e w' => (∃ z : Int, e = .returned (.int .i64 z) ∧ ((0 ≤ z) ↔ d ∈ l)) ∧ Below w.heap.size w w' := by
  have HL := Lib.hid (h0.len dgC_len (by omega))
  have H0 := Lib.hid h0; clear h0
  obtain ⟨a, b⟩ := d
  unfold digV
  obtain ⟨W, hW⟩ : ∃ W, w.alloc (.cells #[.int .u64 a, .int .u64 b] 30) = W := ⟨_, rfl⟩
  have HB0 : Hid (Below w.heap.size w W) := by rw [← hW]; exact (Below.refl _ w).alloc (Nat.le_refl _) _
  have HK : Hid (Bk W w.heap.size 30 #[.int .u64 a, .int .u64 b]) := by rw [← hW]; exact Bk.new w _ _
  have zk : w.heap.size < W.heap.size := HK.out.lt
  simp only
  go_enter Tryz.func218, Tryz.ntmps218
  go_wp2_with fail
  clear hW
  go_loopw [8] (fun i wr => ∃ k : Nat, k ≤ n ∧ i = .int .i64 k ∧ Hid ((a, b) ∉ l.take k) ∧ Hid (Below W.heap.size W wr)) (fun i _ => n - (intOf i).toNat)
  case atStart => exact ⟨0, Nat.zero_le _, rfl, (fun h => by simp at h), Below.refl _ _⟩
  case round =>
    obtain ⟨k, hk, rfl, hN, hBel⟩ := hrel
    have HBw : Hid (Below w.heap.size w wr) := HB0.out.trans (hBel.out.mono HB0.out.size)
    by_cases hlt : k < n
    · obtain ⟨bb, off, x, rfl, hbB, hx, y0, y1⟩ := (H0.out.below HBw.out hB).dg hlt
      have hlz : (k : Int) < (n : Int) := by omega
      obtain ⟨x0, x1, _, _⟩ := (HK.out.below hBel.out zk).two
      have HX := Lib.hid hx; clear hx
      have hde := dig_eq (a, b) x
      simp only at hde
      by_cases e : (a, b) = x
      · rw [decide_eq_true e] at hde
        have HM : Hid ((a, b) ∈ l) := by show _ ∈ _; rw [e]; exact List.mem_of_getElem? HX.out
        clear e
        obtain ⟨x1', x2'⟩ := x
        simp only at y0 y1 hde
        go_wp2_with fail
        go_quiet (fail)
        go_wp2_with fail
        go_ret
        exact ⟨⟨_, rfl, fun _ => HM.out, fun _ => by omega⟩, below_drewN HBw.out _⟩
      · rw [decide_eq_false e] at hde
        have HN : Hid ((a, b) ∉ l.take (k + 1)) := fun hm => by
          rw [take_snoc HX.out] at hm
          rcases List.mem_append.1 hm with hm | hm
          · exact hN.out hm
          · exact e (List.mem_singleton.1 hm)
        clear e
        obtain ⟨x1', x2'⟩ := x
        simp only at y0 y1 hde
        go_wp2_with fail
        go_quiet (fail)
        go_wp2_with fail
        go_roundw
        case rel => exact ⟨k + 1, by omega, by go_num, HN.out, below_drewN hBel.out _⟩
        case measure => simp [intOf]; omega
    · have hlz : ¬ (k : Int) < (n : Int) := by omega
      have HN : Hid ((a, b) ∉ l) := by
        have := hN.out
        rwa [List.take_of_length_le (by rw [HL.out]; omega)] at this
      go_wp2_with fail
      go_ret
      exact ⟨⟨_, rfl, fun h => absurd h (by decide), fun h => absurd h HN.out⟩, HBw.out⟩
set_option maxHeartbeats 1000000 in
theorem containsD_any (A : Option Addr) (n c B : Nat) (l : List Dig) (d : Dig) (w : World) (h0 : Sl w B 2 A n (flat dgC l)) (hB : B ≤ w.heap.size) (hn : n ≤ 1000000) :
    Calls Tryz.prog 210 #[.slice A n c, digV d] w fun e w' => e = .returned (.bool (decide (d ∈ l))) ∧ Below w.heap.size w w' := by
  obtain ⟨W, hW⟩ : ∃ W, w.alloc (.cells #[.int .u64 d.1, .int .u64 d.2] 30) = W := ⟨_, rfl⟩
  have HB0 : Hid (Below w.heap.size w W) := by rw [← hW]; exact (Below.refl _ w).alloc (Nat.le_refl _) _
  have HK : Hid (Bk W w.heap.size 30 #[.int .u64 d.1, .int .u64 d.2]) := by rw [← hW]; exact Bk.new w _ _
  obtain ⟨x0, x1, _, _⟩ := HK.out.two
  have HI := Lib.hid (indexD_any A n c B l d W (h0.below (HB0.out.mono hB) (Nat.le_refl _)) (by have := HB0.out.size; omega) hn)
  unfold digV at HI ⊢
  clear h0
  go_enter Tryz.func210, Tryz.ntmps210
  go_wp2_with fail
  refine HI.out.mono ?_
  rintro e w1 ⟨⟨z, rfl, hz⟩, hb⟩
  have HZ := Lib.hid hz
  have HB1 : Hid (Below w.heap.size w w1) := HB0.out.trans (hb.mono HB0.out.size)
  clear hz hb
  by_cases h : 0 ≤ z
  · have HM : Hid (d ∈ l) := HZ.out.1 h
    go_wp2_with fail
    go_ret
    exact ⟨ret_bool (by rw [decide_eq_true HM.out]), HB1.out⟩
  · have HM : Hid (d ∉ l) := fun hm => h (HZ.out.2 hm)
    go_wp2_with fail
    go_ret
    exact ⟨ret_bool (by rw [decide_eq_false HM.out]; simp; omega), HB1.out⟩
structure Osl where
  eA : Option Addr
  en : Nat
  ec : Nat
  pA : Option Addr
  pn : Nat
  pc : Nat
def obC (o : Ob) (s : Osl) : Array Value := #[.int .i64 o.kind, .string o.data, .slice s.eA s.en s.ec, .int .u64 o.tree.1, .int .u64 o.tree.2, .slice s.pA s.pn s.pc, .string o.auth, .int .i64 o.time, .string o.msg]
def obV (o : Ob) (s : Osl) : Value := .agg (obC o s)
structure ObM (w : World) (B : Nat) (o : Ob) (s : Osl) : Prop where
  e : Sl w B 4 s.eA s.en (flat enC o.ents)
  p : Sl w B 2 s.pA s.pn (flat dgC o.pars)
  ele : s.en ≤ s.ec
  emx : s.ec ≤ maxLen
  ple : s.pn ≤ s.pc
  pmx : s.pc ≤ maxLen
theorem ObM.below {w w' : World} {B B' : Nat} {o : Ob} {s : Osl} (h : ObM w B o s) (hb : Below B' w w') (hB : B ≤ B') : ObM w' B o s := ⟨h.e.below hb hB, h.p.below hb hB, h.ele, h.emx, h.ple, h.pmx⟩
theorem ObM.more {w : World} {B B' : Nat} {o : Ob} {s : Osl} (h : ObM w B o s) (hB : B ≤ B') : ObM w B' o s := ⟨h.e.more hB, h.p.more hB, h.ele, h.emx, h.ple, h.pmx⟩
theorem ObM.elen {w : World} {B : Nat} {o : Ob} {s : Osl} (h : ObM w B o s) : o.ents.length = s.en := h.e.len enC_len (by omega)
theorem ObM.plen {w : World} {B : Nat} {o : Ob} {s : Osl} (h : ObM w B o s) : o.pars.length = s.pn := h.p.len dgC_len (by omega)
theorem Bk.nine {w : World} {b : Nat} {t : TypeId} {x0 x1 x2 x3 x4 x5 x6 x7 x8 : Value} (h : Bk w b t #[x0, x1, x2, x3, x4, x5, x6, x7, x8]) : w.cell? ⟨b, 0, none⟩ = some x0 ∧ w.cell? ⟨b, 1, none⟩ = some x1 ∧ w.cell? ⟨b, 2, none⟩ = some x2 ∧ w.cell? ⟨b, 3, none⟩ = some x3 ∧ w.cell? ⟨b, 4, none⟩ = some x4 ∧ w.cell? ⟨b, 5, none⟩ = some x5 ∧ w.cell? ⟨b, 6, none⟩ = some x6 ∧ w.cell? ⟨b, 7, none⟩ = some x7 ∧ w.cell? ⟨b, 8, none⟩ = some x8 := by
  have c0 := h.cell 0; have c1 := h.cell 1; have c2 := h.cell 2; have c3 := h.cell 3; have c4 := h.cell 4; have c5 := h.cell 5; have c6 := h.cell 6; have c7 := h.cell 7; have c8 := h.cell 8
  simp at c0 c1 c2 c3 c4 c5 c6 c7 c8
  exact ⟨c0, c1, c2, c3, c4, c5, c6, c7, c8⟩
set_option maxRecDepth 100000 in
set_option maxHeartbeats 4000000 in
theorem ocheckC_any (o : Ob) (s : Osl) (B : Nat) (w : World) (hm : ObM w B o s) (hB : B ≤ w.heap.size) (hc : OkC o) :
    Calls Tryz.prog 191 #[obV o s] w fun e w' => e = .returned (.int .i64 0) ∧ Below w.heap.size w w' := by
  have HL := Lib.hid hm.plen
  have HP := Lib.hid hm.p
  have hn : s.pn ≤ 8 := by have := hc.pars.few; rw [HL.out] at this; exact this
  have HPS := Lib.hid hc.pars
  have hpc := hm.ple; have hpm := hm.pmx
  have htz := dig_nz hc.nz
  have hau := hc.auth
  have hns := nameB_size hc.auth
  have ht0 := hc.t0; have ht1 := hc.t1; have hms := hc.msg
  obtain ⟨kind, data, ents, ⟨t1, t2⟩, pars, auth, time, msg⟩ := o
  obtain ⟨eA, en, ec, pA, n, pc⟩ := s
  simp only at HL HP hn HPS hpc hpm htz hau hns ht0 ht1 hms
  simp only [obV, obC]
  have hnm : n ≤ 9223372036854775807 := by omega
  have hnz : ¬ (8 : Int) < (n : Int) := by omega
  have hq1 : ¬ time < 0 := by omega
  have hq2 : ¬ (1099511627776 : Int) < time := by omega
  have hq3 : ¬ (200 : Int) < (msg.size : Int) := by omega
  obtain ⟨W0, hW⟩ : ∃ W0, w.alloc (.cells #[.int .i64 kind, .string data, .slice eA en ec, .int .u64 t1, .int .u64 t2, .slice pA n pc, .string auth, .int .i64 time, .string msg] 82) = W0 := ⟨_, rfl⟩
  have HB0 : Hid (Below w.heap.size w W0) := by rw [← hW]; exact (Below.refl _ w).alloc (Nat.le_refl _) _
  have HK : Hid (Bk W0 w.heap.size 82 #[.int .i64 kind, .string data, .slice eA en ec, .int .u64 t1, .int .u64 t2, .slice pA n pc, .string auth, .int .i64 time, .string msg]) := by rw [← hW]; exact Bk.new w _ _
  have zk : w.heap.size < W0.heap.size := HK.out.lt
  obtain ⟨c0, c1, c2, c3, c4, c5, c6, c7, c8⟩ := HK.out.nine
  clear hm hc
  go_enter Tryz.func191, Tryz.ntmps191
  go_wp2_with fail
  clear hW
  go_loopw [16] (fun i wr => ∃ k : Nat, i = .int .i64 (k : Int) ∧ k ≤ n ∧ Hid (Below W0.heap.size W0 wr)) (fun i _ => n - (intOf i).toNat)
  case atStart => exact ⟨0, rfl, Nat.zero_le _, Below.refl _ _⟩
  case round =>
    obtain ⟨k, rfl, hk, hbw⟩ := hrel
    have zwr := hbw.out.size
    have HBw : Hid (Below w.heap.size w wr) := HB0.out.trans (hbw.out.mono HB0.out.size)
    clear c0 c1 c2 c3 c4 c5 c6 c7 c8
    obtain ⟨c0, c1, c2, c3, c4, c5, c6, c7, c8⟩ := (HK.out.below hbw.out zk).nine
    by_cases hlt : k < n
    · have hlz : (k : Int) < (n : Int) := by omega
      obtain ⟨bb, off, d, rfl, hbB, hd, y0, y1⟩ := (HP.out.below HBw.out hB).dg hlt
      have HD := Lib.hid hd
      have hdz := dig_nz (HPS.out.nz d (List.mem_of_getElem? hd))
      have HNI : Hid (d ∉ pars.take k) := fun hm => by
        obtain ⟨j, hj, e⟩ := List.getElem_of_mem hm
        rw [List.getElem_take] at e
        have h1 := List.getElem?_eq_some_iff.1 HD.out
        rw [List.length_take] at hj
        have := (List.getElem_inj (h₀ := by omega) (h₁ := h1.1) HPS.out.nod).1 (e.trans h1.2.symm)
        omega
      obtain ⟨d1, d2⟩ := d
      simp only at y0 y1 hdz
      obtain ⟨wb, hwb⟩ : ∃ wb, wr.alloc (.cells #[.int .u64 d1, .int .u64 d2] 30) = wb := ⟨_, rfl⟩
      have HBb : Hid (Below wr.heap.size wr wb) := by rw [← hwb]; exact (Below.refl _ wr).alloc (Nat.le_refl _) _
      have HKb : Hid (Bk wb wr.heap.size 30 #[.int .u64 d1, .int .u64 d2]) := by rw [← hwb]; exact Bk.new wr _ _
      have zwb : wb.heap.size = wr.heap.size + 1 := by rw [← hwb]; simp
      have HBwb : Hid (Below w.heap.size w wb) := HBw.out.trans (HBb.out.mono (by omega))
      have HCO : Hid (∀ Z, Below wb.heap.size wb Z → Calls Tryz.prog 210 #[.slice (some ⟨bb, off, none⟩) k pc, .agg #[.int .u64 d1, .int .u64 d2]] Z fun e w' => e = .returned (.bool false) ∧ Below Z.heap.size Z w') := fun Z hZ => by
        have hs : Sl Z B 2 (some ⟨bb, off, none⟩) k (flat dgC (pars.take k)) := by
          have h1 := (HP.out.below HBwb.out hB).below hZ (by have := HBwb.out.size; omega)
          refine ⟨by rw [flat_len dgC_len, List.length_take, HL.out]; rw [Nat.min_eq_left (by omega)], fun h0 => ?_⟩
          obtain ⟨b', o', e1, e2, e3⟩ := h1.2 (by omega)
          refine ⟨b', o', e1, e2, fun j u hu => e3 j u ?_⟩
          rw [flat_take dgC_len] at hu
          have hjl := (List.getElem?_eq_some_iff.1 hu).1
          rw [List.getElem?_take, if_pos (by rw [List.length_take] at hjl; omega)] at hu
          exact hu
        have h := containsD_any (some ⟨bb, off, none⟩) k pc B (pars.take k) (d1, d2) Z hs (by have := hZ.size; have := HBwb.out.size; omega) (by omega)
        rw [decide_eq_false HNI.out] at h
        exact h
      have b0 := HKb.out.cell 0; have b1 := HKb.out.cell 1
      simp at b0 b1
      have e5 := (HK.out.below (hbw.out.trans (HBb.out.mono zwr)) zk).nine.2.2.2.2.2.1
      have hsl : ∀ Z : World, (Instr.sliceAt 80 (.slice (some ⟨bb, off, none⟩) n pc) none (some (.int .i64 k)) none).run Tryz.prog Z = .ok (.slice (some ⟨bb, off, none⟩) k pc) Z := fun Z => by
        obtain ⟨i0, hi0, _⟩ := info_parts infoDg
        exact run_slice_to 80 i0 Tryz.underlying80 hi0 _ n pc k (by omega) Z
      have HWb := Lib.hid hwb
      clear hd hwb
      go_upto_region 10 with fail
      rw [HWb.out]
      refine wp_region_stableGD 5 (24 :: 25 :: 26 :: 27 :: 28 :: []) (by kernel_rfl) (by kernel_rfl) (by kernel_rfl) (fun W => Below wb.heap.size wb W) (fun W W' => Below W.heap.size W W')
        (vPhi ((.pointer (some ⟨w.heap.size, 5, none⟩)) :: (.slice (some ⟨bb, off, none⟩) n pc) :: (.int .i64 (k : Int)) :: (.slice (some ⟨bb, off, none⟩) k pc) :: (.agg #[.int .u64 d1, .int .u64 d2]) :: [])) (fun W W' h1 h2 => h1.trans (h2.mono h1.size)) (fun i v W W' h _ => h) (Below.refl _ _).drew ?stepC ?tailC
      case stepC =>
        intro i o vs W hi ho hv hR hphi
        obtain ⟨v0, v1, v2, v3, v4, rfl⟩ := ls5 hv
        simp only [List.zip, List.zipWith, putAll, Act.put, List.setIfInBounds_toArray, List.set]
        have hWz := hR.size
        have g5 := (hR.cell (p := ⟨w.heap.size, 5, none⟩) (by show w.heap.size < _; omega)).trans e5
        have g0 := (hR.cell (p := ⟨wr.heap.size, 0, none⟩) (by show wr.heap.size < _; omega)).trans b0
        have g1 := (hR.cell (p := ⟨wr.heap.size, 1, none⟩) (by show wr.heap.size < _; omega)).trans b1
        match i, hi, ho with
        | 0, _, rfl =>
          exact .inl ⟨rfl, gives_value (v := .pointer (some ⟨w.heap.size, 5, none⟩)) (w' := W) (by go_simp) ⟨Below.refl _ _, fun u hu => by cases hu; rfl⟩⟩
        | 1, _, rfl =>
          have e0 : v0 = _ := hphi ⟨0, .data⟩ (by simp) rfl v0 rfl _ rfl
          subst e0
          exact .inl ⟨rfl, gives_value (v := .slice (some ⟨bb, off, none⟩) n pc) (w' := W) (by go_simp) ⟨Below.refl _ _, fun u hu => by cases hu; rfl⟩⟩
        | 2, _, rfl =>
          exact .inl ⟨rfl, gives_value (v := .int .i64 (k : Int)) (w' := W) (by go_simp) ⟨Below.refl _ _, fun u hu => by cases hu; rfl⟩⟩
        | 3, _, rfl =>
          have e1 : v1 = _ := hphi ⟨1, .data⟩ (by simp) rfl v1 rfl _ rfl
          have e2 : v2 = _ := hphi ⟨2, .data⟩ (by simp) rfl v2 rfl _ rfl
          subst e1 e2
          exact .inl ⟨rfl, gives_value (v := .slice (some ⟨bb, off, none⟩) k pc) (w' := W) (by go_simp) ⟨Below.refl _ _, fun u hu => by cases hu; rfl⟩⟩
        | 4, _, rfl =>
          exact .inl ⟨rfl, gives_value (v := .agg #[.int .u64 d1, .int .u64 d2]) (w' := W) (by go_simp) ⟨Below.refl _ _, fun u hu => by cases hu; rfl⟩⟩
        | i + 5, hi, _ => exact absurd hi (by omega)
      case tailC =>
        intro vs W hv hR hphi
        obtain ⟨v0, v1, v2, v3, v4, rfl⟩ := ls5 hv
        simp only [List.zip, List.zipWith, putAll, Act.put, List.setIfInBounds_toArray, List.set, List.drop]
        have e0 : v0 = _ := hphi 0 v0 rfl _ rfl
        have e1 : v1 = _ := hphi 1 v1 rfl _ rfl
        have e2 : v2 = _ := hphi 2 v2 rfl _ rfl
        have e3 : v3 = _ := hphi 3 v3 rfl _ rfl
        have e4 : v4 = _ := hphi 4 v4 rfl _ rfl
        subst e0 e1 e2 e3 e4
        clear hphi hv
        have HBz : Hid (Below W0.heap.size W0 W) := hbw.out.trans ((HBb.out.trans (hR.mono (by omega))).mono zwr)
        have HR := Lib.hid hR
        clear hR
        go_wp2_with (first | (go_at_call 210; refine (HCO.out _ HR.out).mono ?_; rintro e w3 ⟨rfl, hb3⟩; refine halt_ ?_))
        refine unhalt ?_
        have HB3 : Hid (Below W0.heap.size W0 w3) := HBz.out.trans (hb3.mono HBz.out.size)
        clear hb3
        go_wp2_with fail
        go_roundw
        case rel => exact ⟨k + 1, by go_num, hlt, HB3.out⟩
        case measure => simp [intOf]; omega
    · have hlz : ¬ (k : Int) < (n : Int) := by omega
      go_wp2_with (first | (go_at_call 98; refine (vname_any auth _ (by unfold maxLen; omega)).mono ?_; rintro e w1 ⟨rfl, rfl⟩; rw [hau]))
      go_ret
      exact ⟨rfl, HBw.out⟩
theorem NoC.flds {o : Ob} (h : NoC o) : o.tree = (0, 0) ∧ o.pars.length = 0 ∧ o.auth = ⟨#[]⟩ ∧ o.time = 0 ∧ o.msg = ⟨#[]⟩ := ⟨h.tree, by rw [h.pars]; rfl, h.auth, h.time, h.msg⟩
set_option maxRecDepth 100000 in
set_option maxHeartbeats 4000000 in
theorem ocheck0_any (o : Ob) (s : Osl) (B : Nat) (w : World) (hm : ObM w B o s) (hB : B ≤ w.heap.size) (hf : OkF o) :
    Calls Tryz.prog 140 #[obV o s] w fun e w' => e = .returned (.int .i64 0) ∧ Below w.heap.size w w' := by
  obtain ⟨W0, hW⟩ : ∃ W, w.alloc (.cells (obC o s) 82) = W := ⟨_, rfl⟩
  have HB0 : Hid (Below w.heap.size w W0) := by rw [← hW]; exact (Below.refl _ w).alloc (Nat.le_refl _) _
  have HK : Hid (Bk W0 w.heap.size 82 (obC o s)) := by rw [← hW]; exact Bk.new w _ _
  have hm0 := hm.below (HB0.out.mono hB) (Nat.le_refl _)
  have hel := hm.elen; have hpl := hm.plen
  cases hf with
  | blob k e c d =>
    obtain ⟨h1, h2, h3, h4, h5⟩ := c.flds
    have he0 : s.en = 0 := by rw [← hel, e]; rfl
    have hp0 : s.pn = 0 := by rw [← hpl]; exact h2
    obtain ⟨kind, data, ents, tree, pars, auth, time, msg⟩ := o
    obtain ⟨eA, en, ec, pA, n, pc⟩ := s
    simp only at h1 h3 h4 h5 he0 hp0 k
    subst h1 h3 h4 h5 he0 hp0
    simp only [obV, obC] at hW HK ⊢
    obtain ⟨c0, c1, c2, c3, c4, c5, c6, c7, c8⟩ := HK.out.nine
    clear hm hm0 hel hpl e c d h2
    rcases k with rfl | rfl
    all_goals
      go_enter Tryz.func140, Tryz.ntmps140
      go_wp2
      go_ret
      exact ⟨rfl, HB0.out⟩
  | tree k d c e =>
    obtain ⟨h1, h2, h3, h4, h5⟩ := c.flds
    have hp0 : s.pn = 0 := by rw [← hpl]; exact h2
    have HE := Lib.hid (ocheckEs_any s.eA s.en s.ec B o.ents W0 hm0.e (by have := HB0.out.size; omega) e)
    obtain ⟨kind, data, ents, tree, pars, auth, time, msg⟩ := o
    obtain ⟨eA, en, ec, pA, n, pc⟩ := s
    simp only at h1 h3 h4 h5 hp0 k d HE
    subst h1 h3 h4 h5 hp0 k d
    simp only [obV, obC] at hW HK ⊢
    obtain ⟨c0, c1, c2, c3, c4, c5, c6, c7, c8⟩ := HK.out.nine
    clear hm hm0 hel hpl e c h2
    go_enter Tryz.func140, Tryz.ntmps140
    go_wp2_with (first | (go_at_call 190; refine HE.out.mono ?_; rintro e w1 ⟨rfl, hb⟩))
    all_goals
      go_ret
      exact ⟨rfl, HB0.out.trans (hb.mono HB0.out.size)⟩
  | commit k d e c =>
    have he0 : s.en = 0 := by rw [← hel, e]; rfl
    have HC := Lib.hid (ocheckC_any o s B W0 hm0 (by have := HB0.out.size; omega) c)
    have htz := dig_nz c.nz
    obtain ⟨kind, data, ents, ⟨t1, t2⟩, pars, auth, time, msg⟩ := o
    obtain ⟨eA, en, ec, pA, n, pc⟩ := s
    simp only at he0 k d htz
    subst he0 k d
    simp only [obV, obC] at hW HK HC ⊢
    obtain ⟨c0, c1, c2, c3, c4, c5, c6, c7, c8⟩ := HK.out.nine
    clear hm hm0 hel hpl e c
    go_enter Tryz.func140, Tryz.ntmps140
    go_wp2_with (first | (go_at_call 191; refine HC.out.mono ?_; rintro e w1 ⟨rfl, hb⟩))
    all_goals
      go_ret
      exact ⟨rfl, HB0.out.trans (hb.mono HB0.out.size)⟩
end Go.Proofs.YtmdhlkkekidknaaGreatDoor

namespace Go.Proofs.YtmdhlkkekidknaaGreatDoor
open Go.RowKit

def cmpI (x y : Int) : Int := if x < y then -1 else if y < x then 1 else 0
def orI : List Int → Int
  | [] => 0
  | a :: r => if a = 0 then orI r else a
theorem cmpD_or (a b : Dig) (h : a ≠ b) : cmpD a b = orI [cmpI a.1 b.1, cmpI a.2 b.2] := by
  unfold cmpD
  rw [if_neg h]
  obtain ⟨a1, a2⟩ := a; obtain ⟨b1, b2⟩ := b
  rw [ne_eq, Prod.mk.injEq] at h
  simp only [orI, cmpI, ltD]
  repeat' split
  all_goals first | rfl | omega
theorem isNaNu_any (x : Int) (w : World) : Calls Tryz.prog 165 #[.int .u64 x] w fun e w' => e = .returned (.bool false) ∧ w = w' := by
  go_enter Tryz.func165, Tryz.ntmps165
  have h : (x != x) = false := by simp
  go_wp2
  go_ret
  exact ⟨rfl, rfl⟩
theorem cmpu_any (x y : Int) (w : World) : Calls Tryz.prog 115 #[.int .u64 x, .int .u64 y] w fun e w' => e = .returned (.int .i64 (cmpI x y)) ∧ w = w' := by
  have H1 := Lib.hid (isNaNu_any x w)
  have H2 := Lib.hid (isNaNu_any y w)
  obtain ⟨z, hz⟩ : ∃ z, cmpI x y = z := ⟨_, rfl⟩
  have HZ := Lib.hid hz
  clear hz
  rw [HZ.out]
  go_enter Tryz.func115, Tryz.ntmps115
  go_wp2_with fail
  refine H1.out.mono ?_
  rintro e w1 ⟨rfl, rfl⟩
  go_wp2_with fail
  refine H2.out.mono ?_
  rintro e w1 ⟨rfl, rfl⟩
  by_cases h : x < y
  · have hz : Hid (z = -1) := by show _ = _; rw [← HZ.out]; exact if_pos h
    go_wp2_with fail
    go_ret
    exact ⟨by rw [hz.out]; rfl, rfl⟩
  · by_cases g : y < x
    · have hz : Hid (z = 1) := by show _ = _; rw [← HZ.out]; unfold cmpI; rw [if_neg h, if_pos g]
      go_wp2_with fail
      go_ret
      exact ⟨by rw [hz.out]; rfl, rfl⟩
    · have hz : Hid (z = 0) := by show _ = _; rw [← HZ.out]; unfold cmpI; rw [if_neg h, if_neg g]
      go_wp2_with fail
      go_ret
      exact ⟨by rw [hz.out]; rfl, rfl⟩
theorem cor_any (b : Nat) (t : TypeId) (x y : Int) (w : World) (h : Bk w b t #[.int .i64 x, .int .i64 y]) :
    Calls Tryz.prog 114 #[.slice (some ⟨b, 0, none⟩) 2 2] w fun e w' => e = .returned (.int .i64 (orI [x, y])) ∧ w = w' := by
  obtain ⟨c0, c1, _, _⟩ := h.two
  have H := Lib.hid h
  clear h
  go_enter Tryz.func114, Tryz.ntmps114
  by_cases hx : x = 0
  · have hxn : (x != 0) = false := by simp [hx]
    have HX := Lib.hid hx
    clear hx
    by_cases hy : y = 0
    · have hyn : (y != 0) = false := by simp [hy]
      have HY := Lib.hid hy
      clear hy
      go_wp2_with fail
      go_loopw [8] (fun i wr => ∃ k : Nat, k ≤ 2 ∧ i = .int .i64 k ∧ wr = w) (fun i _ => 2 - (intOf i).toNat)
      case atStart => exact ⟨0, by omega, rfl, rfl⟩
      case round =>
        obtain ⟨k, hk, rfl, rfl⟩ := hrel
        rcases (by omega : k = 0 ∨ k = 1 ∨ k = 2) with rfl | rfl | rfl
        · go_wp2_with fail
          go_roundw
          case rel => exact ⟨1, by omega, by go_num, trivial⟩
          case measure => simp [intOf]
        · go_wp2_with fail
          go_roundw
          case rel => exact ⟨2, by omega, by go_num, trivial⟩
          case measure => simp [intOf]
        · go_wp2_with fail
          go_ret
          exact ⟨by rw [HX.out, HY.out]; rfl, rfl⟩
    · have hyn : (y != 0) = true := by simp [hy]
      have HE : Hid (orI [x, y] = y) := by show _ = _; simp only [orI, HX.out, if_true]; split <;> simp_all
      clear hy
      go_wp2_with fail
      go_loopw [8] (fun i wr => ∃ k : Nat, k ≤ 1 ∧ i = .int .i64 k ∧ wr = w) (fun i _ => 2 - (intOf i).toNat)
      case atStart => exact ⟨0, by omega, rfl, rfl⟩
      case round =>
        obtain ⟨k, hk, rfl, rfl⟩ := hrel
        rcases (by omega : k = 0 ∨ k = 1) with rfl | rfl
        · go_wp2_with fail
          go_roundw
          case rel => exact ⟨1, by omega, by go_num, trivial⟩
          case measure => simp [intOf]
        · go_wp2_with fail
          go_ret
          exact ⟨by rw [HE.out]; rfl, rfl⟩
  · have hxn : (x != 0) = true := by simp [hx]
    have HE : Hid (orI [x, y] = x) := by show _ = _; simp [orI, hx]
    clear hx
    go_wp2_with fail
    go_loopw [8] (fun i wr => i = .int .i64 0 ∧ wr = w) (fun i _ => 0)
    case atStart => exact ⟨rfl, rfl⟩
    case round =>
      obtain ⟨rfl, rfl⟩ := hrel
      go_wp2_with fail
      go_ret
      exact ⟨by rw [HE.out]; rfl, rfl⟩
def SlP (a1 a2 b1 b2 : Int) (v : Value) (W : World) : Prop := ∃ b0, v = .slice (some ⟨b0, 0, none⟩) 2 2 ∧ Bk W b0 3 #[.int .i64 (cmpI a1 b1), .int .i64 (cmpI a2 b2)]
def CmE (a b : Dig) (w : World) (e : Ending) (w' : World) : Prop := e = .returned (.int .i64 (cmpD a b)) ∧ Below w.heap.size w w'
set_option maxRecDepth 100000 in
set_option maxHeartbeats 4000000 in
theorem dcmp_any (a b : Dig) (w : World) : Calls Tryz.prog 62 #[digV a, digV b] w (CmE a b w) := by
  obtain ⟨a1, a2⟩ := a; obtain ⟨b1, b2⟩ := b
  obtain ⟨z, hz⟩ : ∃ z, cmpD (a1, a2) (b1, b2) = z := ⟨_, rfl⟩
  have HZ := Lib.hid hz
  have HN : Hid (((a1, a2) : Dig) ≠ (b1, b2) → z = orI [cmpI a1 b1, cmpI a2 b2]) := fun h => by rw [← hz]; exact cmpD_or _ _ h
  clear hz
  unfold CmE
  rw [HZ.out]
  have HD : Hid ((a1 == b1 && a2 == b2) = decide (((a1, a2) : Dig) = (b1, b2))) := by
    show _ = _
    rw [Bool.eq_iff_iff]; simp
  simp only [digV]
  obtain ⟨wz, hW⟩ : ∃ wz, (w.alloc (.cells #[.int .u64 a1, .int .u64 a2] 30)).alloc (.cells #[.int .u64 b1, .int .u64 b2] 30) = wz := ⟨_, rfl⟩
  have HA : Hid (Bk wz w.heap.size 30 #[.int .u64 a1, .int .u64 a2]) := by rw [← hW]; exact (Bk.new w _ _).alloc _
  have HB : Hid (Bk wz (w.heap.size + 1) 30 #[.int .u64 b1, .int .u64 b2]) := by
    rw [← hW]
    have := Bk.new (w.alloc (.cells #[.int .u64 a1, .int .u64 a2] 30)) 30 #[.int .u64 b1, .int .u64 b2]
    rw [World.size_alloc] at this; exact this
  have HL : Hid (Below w.heap.size w wz) := by rw [← hW]; exact ((Below.refl _ w).alloc (Nat.le_refl _) _).alloc (by simp) _
  have hzW : w.heap.size + 2 = wz.heap.size := by rw [← hW]; simp
  obtain ⟨c0, c1, _, _⟩ := HA.out.two
  obtain ⟨c2, c3, _, _⟩ := HB.out.two
  have HC1 := Lib.hid (fun w => cmpu_any a1 b1 w)
  have HC2 := Lib.hid (fun w => cmpu_any a2 b2 w)
  by_cases h : ((a1, a2) : Dig) = (b1, b2)
  · have hd := HD.out
    rw [decide_eq_true h] at hd
    have H0 : Hid (z = 0) := by show _ = _; rw [← HZ.out]; exact (cmpD_zero _ _).2 h
    clear h
    go_enter Tryz.func62, Tryz.ntmps62
    go_wp2_with fail
    go_ret
    exact ⟨by rw [H0.out]; rfl, HL.out⟩
  · have hd := HD.out
    rw [decide_eq_false h] at hd
    have H0 : Hid (z = orI [cmpI a1 b1, cmpI a2 b2]) := HN.out h
    clear h
    go_enter Tryz.func62, Tryz.ntmps62
    go_wp2_with fail
    have HSP : Hid (∀ x ∈ [(10, SlP a1 a2 b1 b2)], ∀ v W W', x.2 v W → Below W.heap.size W W' → x.2 v W') := fun x hx v W W' h hb => by
      simp only [List.mem_singleton] at hx
      subst hx
      obtain ⟨b0, h1, h2⟩ := h
      exact ⟨b0, h1, h2.below hb h2.lt⟩
    have k0 := c0; have k1 := c1; have k2 := c2; have k3 := c3
    refine wp_region_stableGD 12 (8 :: 9 :: 10 :: 11 :: 12 :: 13 :: 14 :: 15 :: 16 :: 17 :: 18 :: 19 :: []) (by kernel_rfl) (by kernel_rfl) (by kernel_rfl) (fun W => Below wz.heap.size wz W) (fun W W' => Below W.heap.size W W')
      (gPhi [(10, SlP a1 a2 b1 b2)] ((.pointer (some ⟨w.heap.size, 0, none⟩)) :: (.int .u64 a1) :: (.pointer (some ⟨w.heap.size + 1, 0, none⟩)) :: (.int .u64 b1) :: (.int .i64 (cmpI a1 b1)) :: (.pointer (some ⟨w.heap.size, 1, none⟩)) :: (.int .u64 a2) :: (.pointer (some ⟨w.heap.size + 1, 1, none⟩)) :: (.int .u64 b2) :: (.int .i64 (cmpI a2 b2)) :: (undef) :: (.int .i64 (orI [cmpI a1 b1, cmpI a2 b2])) :: [])) (fun W W' h1 h2 => h1.trans (h2.mono h1.size)) (fun i v W W' h hb => gPhi_keep HSP.out i v W W' h hb) (Below.refl _ _).drew ?stepA ?tailA
    case stepA =>
      intro i o vs W hi ho hv hR hphi
      obtain ⟨v0, v1, v2, v3, v4, v5, v6, v7, v8, v9, v10, v11, rfl⟩ := ls12 hv
      simp only [List.zip, List.zipWith, putAll, Act.put, List.setIfInBounds_toArray, List.set]
      have hWz := hR.size
      have c0 := (hR.cell (p := ⟨w.heap.size, 0, none⟩) (by show w.heap.size < _; omega)).trans k0
      have c1 := (hR.cell (p := ⟨w.heap.size, 1, none⟩) (by show w.heap.size < _; omega)).trans k1
      have c2 := (hR.cell (p := ⟨w.heap.size + 1, 0, none⟩) (by show w.heap.size + 1 < _; omega)).trans k2
      have c3 := (hR.cell (p := ⟨w.heap.size + 1, 1, none⟩) (by show w.heap.size + 1 < _; omega)).trans k3
      match i, hi, ho with
      | 0, _, rfl =>
        exact .inl ⟨rfl, gives_value (v := .pointer (some ⟨w.heap.size, 0, none⟩)) (w' := W) (by go_simp) ⟨Below.refl _ _, fun u hu => by cases hu; rfl⟩⟩
      | 1, _, rfl =>
        have e0 : v0 = _ := hphi ⟨0, .data⟩ (by simp) rfl v0 rfl _ rfl
        subst e0
        exact .inl ⟨rfl, gives_value (v := .int .u64 a1) (w' := W) (by go_simp) ⟨Below.refl _ _, fun u hu => by cases hu; rfl⟩⟩
      | 2, _, rfl =>
        exact .inl ⟨rfl, gives_value (v := .pointer (some ⟨w.heap.size + 1, 0, none⟩)) (w' := W) (by go_simp) ⟨Below.refl _ _, fun u hu => by cases hu; rfl⟩⟩
      | 3, _, rfl =>
        have e2 : v2 = _ := hphi ⟨2, .data⟩ (by simp) rfl v2 rfl _ rfl
        subst e2
        exact .inl ⟨rfl, gives_value (v := .int .u64 b1) (w' := W) (by go_simp) ⟨Below.refl _ _, fun u hu => by cases hu; rfl⟩⟩
      | 4, _, rfl =>
        have e1 : v1 = _ := hphi ⟨1, .data⟩ (by simp) rfl v1 rfl _ rfl
        have e3 : v3 = _ := hphi ⟨3, .data⟩ (by simp) rfl v3 rfl _ rfl
        subst e1 e3
        refine .inl ⟨rfl, gives_call (f := 115) (args := #[.int .u64 a1, .int .u64 b1]) (by go_simp) ((HC1.out W).mono ?_)⟩
        rintro e W' ⟨rfl, rfl⟩
        exact ⟨_, rfl, Below.refl _ _, fun u hu => by cases hu; rfl⟩
      | 5, _, rfl =>
        exact .inl ⟨rfl, gives_value (v := .pointer (some ⟨w.heap.size, 1, none⟩)) (w' := W) (by go_simp) ⟨Below.refl _ _, fun u hu => by cases hu; rfl⟩⟩
      | 6, _, rfl =>
        have e5 : v5 = _ := hphi ⟨5, .data⟩ (by simp) rfl v5 rfl _ rfl
        subst e5
        exact .inl ⟨rfl, gives_value (v := .int .u64 a2) (w' := W) (by go_simp) ⟨Below.refl _ _, fun u hu => by cases hu; rfl⟩⟩
      | 7, _, rfl =>
        exact .inl ⟨rfl, gives_value (v := .pointer (some ⟨w.heap.size + 1, 1, none⟩)) (w' := W) (by go_simp) ⟨Below.refl _ _, fun u hu => by cases hu; rfl⟩⟩
      | 8, _, rfl =>
        have e7 : v7 = _ := hphi ⟨7, .data⟩ (by simp) rfl v7 rfl _ rfl
        subst e7
        exact .inl ⟨rfl, gives_value (v := .int .u64 b2) (w' := W) (by go_simp) ⟨Below.refl _ _, fun u hu => by cases hu; rfl⟩⟩
      | 9, _, rfl =>
        have e6 : v6 = _ := hphi ⟨6, .data⟩ (by simp) rfl v6 rfl _ rfl
        have e8 : v8 = _ := hphi ⟨8, .data⟩ (by simp) rfl v8 rfl _ rfl
        subst e6 e8
        refine .inl ⟨rfl, gives_call (f := 115) (args := #[.int .u64 a2, .int .u64 b2]) (by go_simp) ((HC2.out W).mono ?_)⟩
        rintro e W' ⟨rfl, rfl⟩
        exact ⟨_, rfl, Below.refl _ _, fun u hu => by cases hu; rfl⟩
      | 10, _, rfl =>
        have e4 : v4 = _ := hphi ⟨4, .data⟩ (by simp) rfl v4 rfl _ rfl
        have e9 : v9 = _ := hphi ⟨9, .data⟩ (by simp) rfl v9 rfl _ rfl
        subst e4 e9
        exact .inl ⟨rfl, gives_value (v := .slice (some ⟨W.heap.size, 0, none⟩) 2 2) (w' := W.alloc (.cells #[.int .i64 (cmpI a1 b1), .int .i64 (cmpI a2 b2)] 3)) (by go_simp) ⟨(Below.refl _ W).alloc (Nat.le_refl _) _, W.heap.size, rfl, Bk.new W _ _⟩⟩
      | 11, _, rfl =>
        obtain ⟨b0, rfl, hbk⟩ : (SlP a1 a2 b1 b2) v10 W := hphi ⟨10, .data⟩ (by simp) rfl v10 rfl
        refine .inl ⟨rfl, gives_call (f := 114) (args := #[.slice (some ⟨b0, 0, none⟩) 2 2]) (by go_simp) ((cor_any b0 3 _ _ W hbk).mono ?_)⟩
        rintro e W' ⟨rfl, rfl⟩
        exact ⟨_, rfl, Below.refl _ _, fun u hu => by cases hu; rfl⟩
      | i + 12, hi, _ => exact absurd hi (by omega)
    case tailA =>
      intro vs W hv hR hphi
      obtain ⟨v0, v1, v2, v3, v4, v5, v6, v7, v8, v9, v10, v11, rfl⟩ := ls12 hv
      simp only [List.zip, List.zipWith, putAll, Act.put, List.setIfInBounds_toArray, List.set, List.drop]
      have e0 : v0 = _ := hphi 0 v0 rfl _ rfl
      have e1 : v1 = _ := hphi 1 v1 rfl _ rfl
      have e2 : v2 = _ := hphi 2 v2 rfl _ rfl
      have e3 : v3 = _ := hphi 3 v3 rfl _ rfl
      have e4 : v4 = _ := hphi 4 v4 rfl _ rfl
      have e5 : v5 = _ := hphi 5 v5 rfl _ rfl
      have e6 : v6 = _ := hphi 6 v6 rfl _ rfl
      have e7 : v7 = _ := hphi 7 v7 rfl _ rfl
      have e8 : v8 = _ := hphi 8 v8 rfl _ rfl
      have e9 : v9 = _ := hphi 9 v9 rfl _ rfl
      have e10 : (SlP a1 a2 b1 b2) v10 W := hphi 10 v10 rfl
      have e11 : v11 = _ := hphi 11 v11 rfl _ rfl
      subst e0 e1 e2 e3 e4 e5 e6 e7 e8 e9 e11
      clear hphi hv
      obtain ⟨b0, rfl, _⟩ := e10
      go_wp2_with fail
      go_ret
      exact ⟨by rw [H0.out]; rfl, HL.out.trans (hR.mono (by omega))⟩
end Go.Proofs.YtmdhlkkekidknaaGreatDoor
