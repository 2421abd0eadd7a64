/-
  Lemmas: digest.Of and cordwoodref02.Of: the digest of a string. Pools of objects: which are valid, what is found in them, what comes of an insertion; in plain Lean. Trees of files: what a visit finds, what Load answers; in plain Lean. The paths that a visit finds differ; in plain Lean. The reference's Label. tree.isPath. append onto a slice that is the call's own, or empty without capacity. A slice from which elements are taken in front and to which elements are appended: it owns its row from its own offset on. Over any program. Maps with strings as keys and whatever values as elements (structs with slices, slices that are appended to): what a key has, as a plain function. Over any program. As in Range2; moreover the iterator knows where memory ends when it is entered (hz), and what a round keeps (Kp) has to be shown of the loop's own record only where that record lies. For graph.reached's walk: laws inside a fence (append onto a queue, a store into a map), and what the iterator and its rounds leave alone. The search with numbers of steps, as graph.reached makes it: what it has handed over (pre) and its queue (todo). Plain Lean; no program in sight. A scope (a function that holds a label) inside a fence, where no goto is taken. Over any program. graph.index: targets by their labels; the first one with a label counts. graph.reached's iterator, walked. graph.reached and graph.returns. graph.edges: the labels on which targets depend directly, and those that depend on them. graph.edges, walked. graph.sortedKeys. What graph.Cycle does, in plain Lean: numbers of steps, the best next label, and why it ends. No program in sight. graph.Cycle, walked. buildfile.Check on one rule. A region that draws its order, whose first n operations only add to memory: whatever the order, each operation's value keeps its word (a predicate that abides what is added), and the rest is carried out in the text's order. A region that draws its order, some of whose operations are guarded, and whose first n operations only add to memory: whatever the order, each operation's value keeps its word. As in Stable, with guards. graph.valid. The order of a graph, in plain Lean: again and again the first target that is not placed and whose dependences are. What is affected by paths, and what may be seen, in plain Lean. Directories, the paths of build files and of modules. The reference's paths: cut, ValidName, Path, Below.
-/
import Derived.Laws.BitsLemmas
import Derived.ArgAppend
import Derived.Maps.RangeWalk
import Derived.OwnWalkIn
import Derived.Scope
import Derived.ControlIn
import Derived.Test.YtmdhlkkekidknaaGreatDoorProg
import Derived.Sort.LoopGhostIn
import Derived.Maps.OwnIn
import Derived.StillTail
import Derived.WalkKit
import Derived.IntWalk
import Derived.Lib.LastIndexByte
import Derived.Shelf.Strings.LastIndex
import Derived.Deep.QuietTactic
import Derived.BigQuiet
import Derived.Test.YtmdhlkkekidknaaGreatDoorU1

namespace Go.Proofs.YtmdhlkkekidknaaGreatDoor
open Go.RowKit

@[go_sem] theorem guardDig : Tryz.prog.eqGuardType Tryz.prog.depth 30 = false := by kernel_rfl
theorem eqDig0 (dd : Nat) (a b c d : Int) (w : World) : (Op.equalIn (dd + 2) 30 (.agg #[.int .u64 a, .int .u64 b]) (.agg #[.int .u64 c, .int .u64 d])).run Tryz.prog w = .ok (a == c && b == d) w := by
  have u3 := Tryz.underlying28
  have a3 := Tryz.isAgg28
  have z3 := Tryz.sizeOf28
  rw [Op.equalIn]
  simp only [Sem.run_bind, run_underlying Tryz.underlying30, Result.andThen_ok]
  simp only [Std.Legacy.Range.forIn_eq_forIn_range', Std.Legacy.Range.size, Nat.sub_zero, Nat.add_sub_cancel, Nat.div_one, List.range'_succ, List.range'_zero, List.forIn_cons, List.forIn_nil]
  go_simp
  by_cases h1 : a = c <;> by_cases h2 : b = d <;> simp [h1, h2]
@[go_sem high] theorem eqDig (a b c d : Int) (w : World) : (Op.equalIn 10000 30 (.agg #[.int .u64 a, .int .u64 b]) (.agg #[.int .u64 c, .int .u64 d])).run Tryz.prog w = .ok (a == c && b == d) w := eqDig0 9998 a b c d w

def dg1 (h b : Int) : Int := IntKind.u64.wrap (bits .xor .u64 h b * 1099511628211)
def dg2 (h b : Int) : Int := bits .xor .u64 (IntKind.u64.wrap (h * 1099511628211)) b
def dgF (g : Int → Int → Int) (l : Bytes) : Int := l.foldl (fun h b => g h (IntKind.u64.wrap (b.toNat : Int))) 14695981039346656037
def ofB (l : Bytes) : Dig := if dgF dg1 l = 0 ∧ dgF dg2 l = 0 then (0, 1) else (dgF dg1 l, dgF dg2 l)
theorem dgF_snoc (g : Int → Int → Int) {l : Bytes} {k : Nat} (hk : k < l.length) : dgF g (l.take (k + 1)) = g (dgF g (l.take k)) (IntKind.u64.wrap (l[k].toNat : Int)) := by
  unfold dgF; rw [take_snoc (List.getElem?_eq_getElem hk), List.foldl_append]; rfl

set_option maxHeartbeats 1000000 in
theorem of1_any (h b : Int) (w : World) : Calls Tryz.prog 163 #[.int .u64 h, .int .u64 b] w fun e w' => e = .returned (.int .u64 (dg1 h b)) ∧ w = w' := by
  go_enter Tryz.func163, Tryz.ntmps163
  go_wp2
  go_ret
  exact ⟨rfl, rfl⟩
set_option maxHeartbeats 1000000 in
theorem of2_any (h b : Int) (w : World) : Calls Tryz.prog 164 #[.int .u64 h, .int .u64 b] w fun e w' => e = .returned (.int .u64 (dg2 h b)) ∧ w = w' := by
  go_enter Tryz.func164, Tryz.ntmps164
  go_wp2
  go_ret
  exact ⟨rfl, rfl⟩
set_option maxRecDepth 100000 in
set_option maxHeartbeats 1000000 in
theorem hash1_any (s : ByteArray) (w : World) (hs : s.size ≤ maxLen) :
    Calls Tryz.prog 162 #[.string s, .func (.func 163) #[] #[]] w fun e w' => e = .returned (.int .u64 (dgF dg1 (toL s))) ∧ w = w' := by
  have hs' : s.size ≤ 9223372036854775807 := by unfold maxLen at hs; exact hs
  go_enter Tryz.func162, Tryz.ntmps162
  go_wp2
  go_loop [5, 9] (fun q5 q9 => ∃ k : Nat, k ≤ s.size ∧ q9 = .int .i64 k ∧ q5 = .int .u64 (dgF dg1 ((toL s).take k))) (fun _ q9 => s.size - (intOf q9).toNat)
  case atStart => exact ⟨0, Nat.zero_le _, rfl, rfl⟩
  case round =>
    obtain ⟨k, hk, rfl, rfl⟩ := hrel
    by_cases hlt : k < s.size
    · have hlz : (k : Int) < (s.size : Int) := by omega
      have hkl : k < (toL s).length := by rw [← size_toL]; exact hlt
      have HN : Hid (dgF dg1 ((toL s).take (k + 1)) = dg1 (dgF dg1 ((toL s).take k)) (IntKind.u64.wrap (s[k].toNat : Int))) := dgF_snoc dg1 hkl
      generalize dgF dg1 ((toL s).take k) = h0 at *
      go_wp2_with fail
      refine (of1_any _ _ _).mono ?_
      rintro e w1 ⟨rfl, rfl⟩
      go_wp2_with fail
      go_round
      case rel => exact ⟨k + 1, by omega, by go_num, by rw [HN.out]; rfl⟩
      case measure => simp [intOf]; omega
    · have hlz : ¬ (k : Int) < (s.size : Int) := by omega
      have HE : Hid ((toL s).take k = toL s) := List.take_of_length_le (by rw [← size_toL]; omega)
      go_wp2_with fail
      go_ret
      exact ⟨by rw [HE.out]; rfl, rfl⟩
set_option maxRecDepth 100000 in
set_option maxHeartbeats 1000000 in
theorem hash2_any (s : ByteArray) (w : World) (hs : s.size ≤ maxLen) :
    Calls Tryz.prog 162 #[.string s, .func (.func 164) #[] #[]] w fun e w' => e = .returned (.int .u64 (dgF dg2 (toL s))) ∧ w = w' := by
  have hs' : s.size ≤ 9223372036854775807 := by unfold maxLen at hs; exact hs
  go_enter Tryz.func162, Tryz.ntmps162
  go_wp2
  go_loop [5, 9] (fun q5 q9 => ∃ k : Nat, k ≤ s.size ∧ q9 = .int .i64 k ∧ q5 = .int .u64 (dgF dg2 ((toL s).take k))) (fun _ q9 => s.size - (intOf q9).toNat)
  case atStart => exact ⟨0, Nat.zero_le _, rfl, rfl⟩
  case round =>
    obtain ⟨k, hk, rfl, rfl⟩ := hrel
    by_cases hlt : k < s.size
    · have hlz : (k : Int) < (s.size : Int) := by omega
      have hkl : k < (toL s).length := by rw [← size_toL]; exact hlt
      have HN : Hid (dgF dg2 ((toL s).take (k + 1)) = dg2 (dgF dg2 ((toL s).take k)) (IntKind.u64.wrap (s[k].toNat : Int))) := dgF_snoc dg2 hkl
      generalize dgF dg2 ((toL s).take k) = h0 at *
      go_wp2_with fail
      refine (of2_any _ _ _).mono ?_
      rintro e w1 ⟨rfl, rfl⟩
      go_wp2_with fail
      go_round
      case rel => exact ⟨k + 1, by omega, by go_num, by rw [HN.out]; rfl⟩
      case measure => simp [intOf]; omega
    · have hlz : ¬ (k : Int) < (s.size : Int) := by omega
      have HE : Hid ((toL s).take k = toL s) := List.take_of_length_le (by rw [← size_toL]; omega)
      go_wp2_with fail
      go_ret
      exact ⟨by rw [HE.out]; rfl, rfl⟩
theorem res_cellD {fn : Func} {c : Tmp} (h : fn.results = #[.cell c 30]) {w : World} {a : Array Value} {b : Nat} {x y : Value} (ha : a[c]?.getD undef = .pointer (some ⟨b, 0, none⟩)) (hk : Bk w b 30 #[x, y]) :
    (results fn a).run Tryz.prog w = .ok (.agg #[x, y]) w := by
  have h0 := hk.cell 0; have h1 := hk.cell 1
  simp at h0 h1
  simp [results, h, ha, go_sem, h0, h1]
def digV (d : Dig) : Value := .agg #[.int .u64 d.1, .int .u64 d.2]
def OfEnd (s : ByteArray) (w : World) (e : Ending) (w' : World) : Prop := e = .returned (digV (ofB (toL s))) ∧ Below w.heap.size w w'
set_option maxRecDepth 100000 in
set_option maxHeartbeats 2000000 in
theorem of_any (s : ByteArray) (w : World) (hs : s.size ≤ maxLen) : Calls Tryz.prog 113 #[.string s] w (OfEnd s w) := by
  have HE : Hid (ofB (toL s) = if dgF dg1 (toL s) = 0 ∧ dgF dg2 (toL s) = 0 then (0, 1) else (dgF dg1 (toL s), dgF dg2 (toL s))) := rfl
  have H1 := Lib.hid (hash1_any s (w.alloc (.cells #[.int .u64 0, .int .u64 0] 30)) hs)
  have H2 := Lib.hid (hash2_any s (w.alloc (.cells #[.int .u64 0, .int .u64 0] 30)) hs)
  have HV : Hid (∀ q, ofB (toL s) = q → ∀ e w', e = Ending.returned (digV q) → Below w.heap.size w w' → OfEnd s w e w') := fun q h e w' h1 h2 => by subst h; exact ⟨h1, h2⟩
  generalize dgF dg1 (toL s) = x at *
  generalize dgF dg2 (toL s) = y at *
  go_enter Tryz.func113, Tryz.ntmps113
  go_wp2_with fail
  refine H1.out.mono ?_
  rintro e w1 ⟨rfl, rfl⟩
  go_wp2_with fail
  refine H2.out.mono ?_
  rintro e w1 ⟨rfl, rfl⟩
  obtain ⟨W, hW⟩ : ∃ W, (w.alloc (.cells #[.int .u64 0, .int .u64 0] 30)).alloc (.cells #[.int .u64 x, .int .u64 y] 30) = W := ⟨_, rfl⟩
  have K0 : Hid (Bk W w.heap.size 30 #[.int .u64 0, .int .u64 0]) := by rw [← hW]; exact (Bk.new w _ _).alloc _
  have K1 : Hid (Bk W (w.heap.size + 1) 30 #[.int .u64 x, .int .u64 y]) := by
    rw [← hW]
    have := Bk.new (w.alloc (.cells #[.int .u64 0, .int .u64 0] 30)) 30 #[.int .u64 x, .int .u64 y]
    rw [World.size_alloc] at this
    exact this
  have HB : Hid (Below w.heap.size w W) := by rw [← hW]; exact ((Below.refl _ w).alloc (Nat.le_refl _) _).alloc (by simp) _
  have u0 := K0.out.cell 0; have u1 := K0.out.cell 1; have v0 := K1.out.cell 0; have v1 := K1.out.cell 1
  simp at u0 u1 v0 v1
  have f0 := K0.out.free 0; have f1 := K0.out.free 1; have g1 := K1.out.free 1
  clear H1 H2
  by_cases hz : x = 0 ∧ y = 0
  · have hb : (x == 0 && y == 0) = true := by simp [hz]
    have HQ : Hid (ofB (toL s) = (x, 1)) := by show _ = _; rw [HE.out, if_pos hz, hz.1]
    clear hz
    have W2 : Hid (Bk (W.setCell ⟨w.heap.size + 1, 1, none⟩ (.int .u64 1)) (w.heap.size + 1) 30 #[.int .u64 x, .int .u64 1]) := by
      have := K1.out.set 1 (.int .u64 1); show Bk _ _ _ _; simpa using this
    have KF : Hid (Bk (W.setCell ⟨w.heap.size + 1, 1, none⟩ (.int .u64 1)) w.heap.size 30 #[.int .u64 0, .int .u64 0]) := K0.out.far (by simp) _
    have a0 := W2.out.cell 0; have a1 := W2.out.cell 1; have b0 := KF.out.cell 0; have b1 := KF.out.cell 1
    simp at a0 a1 b0 b1
    have d0 := KF.out.free 0; have d1 := KF.out.free 1
    clear HE
    go_wp2_with fail
    refine bodyPost_ret (res_cellD Tryz.results113 rfl (KF.out.set2 _ _)) rfl ?_
    exact HV.out _ HQ.out _ _ rfl (below_set2 (HB.out.setCell (p := ⟨w.heap.size + 1, 1, none⟩) (by simp) _) (Nat.le_refl _) _ _)
  · have hb : (x == 0 && y == 0) = false := by
      rw [Bool.eq_false_iff]; intro h; simp at h; exact hz h
    have HQ : Hid (ofB (toL s) = (x, y)) := by show _ = _; rw [HE.out, if_neg hz]
    clear hz HE
    go_wp2_with fail
    refine bodyPost_ret (res_cellD Tryz.results113 rfl (K0.out.set2 _ _)) rfl ?_
    exact HV.out _ HQ.out _ _ rfl (below_set2 HB.out (Nat.le_refl _) _ _)

set_option maxRecDepth 100000 in
set_option maxHeartbeats 2000000 in
theorem rof_any (s : ByteArray) (w : World) (hs : s.size ≤ maxLen) : Calls Tryz.prog 20 #[.string s] w (OfEnd s w) := by
  have hs' : s.size ≤ 9223372036854775807 := by unfold maxLen at hs; exact hs
  have HE : Hid (ofB (toL s) = if dgF dg1 (toL s) = 0 ∧ dgF dg2 (toL s) = 0 then (0, 1) else (dgF dg1 (toL s), dgF dg2 (toL s))) := rfl
  have HV : Hid (∀ q, ofB (toL s) = q → ∀ e w', e = Ending.returned (digV q) → Below w.heap.size w w' → OfEnd s w e w') := fun q h e w' h1 h2 => by subst h; exact ⟨h1, h2⟩
  obtain ⟨W, hW⟩ : ∃ W, w.alloc (.cells #[.int .u64 0, .int .u64 0] 30) = W := ⟨_, rfl⟩
  have K0 : Hid (Bk W w.heap.size 30 #[.int .u64 0, .int .u64 0]) := by rw [← hW]; exact Bk.new w _ _
  have HB : Hid (Below w.heap.size w W) := by rw [← hW]; exact (Below.refl _ w).alloc (Nat.le_refl _) _
  have u0 := K0.out.cell 0; have u1 := K0.out.cell 1
  simp at u0 u1
  have f0 := K0.out.free 0; have f1 := K0.out.free 1
  go_enter Tryz.func20, Tryz.ntmps20
  go_wp2
  go_loop [3, 4, 5] (fun q3 q4 q5 => ∃ k : Nat, k ≤ s.size ∧ q5 = .int .i64 k ∧ q3 = .int .u64 (dgF dg1 ((toL s).take k)) ∧ q4 = .int .u64 (dgF dg2 ((toL s).take k))) (fun _ _ q5 => s.size - (intOf q5).toNat)
  case atStart => exact ⟨0, Nat.zero_le _, rfl, rfl, rfl⟩
  case round =>
    obtain ⟨k, hk, rfl, rfl, rfl⟩ := hrel
    by_cases hlt : k < s.size
    · have hlz : (k : Int) < (s.size : Int) := by omega
      have hkl : k < (toL s).length := by rw [← size_toL]; exact hlt
      have HN1 : Hid (dgF dg1 ((toL s).take (k + 1)) = dg1 (dgF dg1 ((toL s).take k)) (IntKind.u64.wrap (s[k].toNat : Int))) := dgF_snoc dg1 hkl
      have HN2 : Hid (dgF dg2 ((toL s).take (k + 1)) = dg2 (dgF dg2 ((toL s).take k)) (IntKind.u64.wrap (s[k].toNat : Int))) := dgF_snoc dg2 hkl
      generalize dgF dg1 ((toL s).take k) = x at *
      generalize dgF dg2 ((toL s).take k) = y at *
      go_wp2_with fail
      go_round
      case rel => exact ⟨k + 1, by omega, by go_num, by rw [HN1.out]; rfl, by rw [HN2.out]; rfl⟩
      case measure => simp [intOf]; omega
    · have hlz : ¬ (k : Int) < (s.size : Int) := by omega
      have hE : (toL s).take k = toL s := List.take_of_length_le (by rw [← size_toL]; omega)
      rw [hE]
      clear hE
      generalize dgF dg1 (toL s) = x at *
      generalize dgF dg2 (toL s) = y at *
      by_cases hz : x = 0 ∧ y = 0
      · have HQ : Hid (ofB (toL s) = (0, 1)) := by show _ = _; rw [HE.out, if_pos hz]
        obtain ⟨rfl, rfl⟩ := hz
        clear HE
        go_wp2_with fail
        refine bodyPost_ret (res_cellD Tryz.results20 rfl (K0.out.set2 _ _)) rfl ?_
        exact HV.out _ HQ.out _ _ rfl (below_set2 HB.out (Nat.le_refl _) _ _)
      · have HQ : Hid (ofB (toL s) = (x, y)) := by show _ = _; rw [HE.out, if_neg hz]
        clear HE
        by_cases hx : x = 0
        · have hy : (y == 0) = false := by rw [beq_eq_false_iff_ne]; exact fun h => hz ⟨hx, h⟩
          subst hx
          clear hz
          go_wp2_with fail
          refine bodyPost_ret (res_cellD Tryz.results20 rfl (K0.out.set2 _ _)) rfl ?_
          exact HV.out _ HQ.out _ _ rfl (below_set2 HB.out (Nat.le_refl _) _ _)
        · have hxb : (x == 0) = false := by rw [beq_eq_false_iff_ne]; exact hx
          clear hz hx
          go_wp2_with fail
          refine bodyPost_ret (res_cellD Tryz.results20 rfl (K0.out.set2 _ _)) rfl ?_
          exact HV.out _ HQ.out _ _ rfl (below_set2 HB.out (Nat.le_refl _) _ _)
end Go.Proofs.YtmdhlkkekidknaaGreatDoor

namespace Go.Proofs.YtmdhlkkekidknaaGreatDoor
open Go.RowKit

def ltD (a b : Dig) : Prop := a.1 < b.1 ∨ (a.1 = b.1 ∧ a.2 < b.2)
instance (a b : Dig) : Decidable (ltD a b) := by unfold ltD; infer_instance
def cmpD (a b : Dig) : Int := if a = b then 0 else if ltD a b then -1 else 1
theorem ltD_irrefl (a : Dig) : ¬ ltD a a := by unfold ltD; omega
theorem ltD_trans {a b c : Dig} (h : ltD a b) (h' : ltD b c) : ltD a c := by unfold ltD at *; omega
theorem ltD_ne {a b : Dig} (h : ltD a b) : a ≠ b := by rintro rfl; exact ltD_irrefl a h
theorem ltD_conn {a b : Dig} (h : ¬ ltD a b) (h' : ¬ ltD b a) : a = b := by
  obtain ⟨a1, a2⟩ := a; obtain ⟨b1, b2⟩ := b
  unfold ltD at *; simp only at *
  rw [Prod.mk.injEq]; omega
theorem cmpD_lt (a b : Dig) : cmpD a b < 0 ↔ ltD a b := by
  unfold cmpD
  split
  · rename_i h; subst h; simp [ltD_irrefl]
  · split <;> simp_all
theorem cmpD_zero (a b : Dig) : cmpD a b = 0 ↔ a = b := by
  unfold cmpD
  split
  · simp_all
  · split <;> simp_all
abbrev Itm := Dig × ByteArray
structure PlOk (p : List Itm) : Prop where
  enc : ∀ i ∈ p, ∃ o, OkO o ∧ i.2 = ofL (encO o)
  dg : ∀ i ∈ p, i.1 = ofB (toL i.2)
  asc : p.Pairwise (fun a b => ltD a.1 b.1)
theorem PlOk.nil : PlOk [] := ⟨(fun i h => by cases h), (fun i h => by cases h), List.Pairwise.nil⟩
def atD (p : List Itm) (d : Dig) : Nat := p.countP (fun i => decide (ltD i.1 d))
def AscI (p : List Itm) : Prop := p.Pairwise (fun a b => ltD a.1 b.1)
theorem atD_le (p : List Itm) (d : Dig) : atD p d ≤ p.length := List.countP_le_length
theorem AscI.tail {i : Itm} {p : List Itm} (h : AscI (i :: p)) : AscI p := (List.pairwise_cons.1 h).2
theorem AscI.head {i j : Itm} {p : List Itm} (h : AscI (i :: p)) (hj : j ∈ p) : ltD i.1 j.1 := (List.pairwise_cons.1 h).1 j hj
theorem atD_zero {p : List Itm} {d : Dig} (h : ∀ i ∈ p, ¬ ltD i.1 d) : atD p d = 0 := by
  unfold atD; rw [List.countP_eq_zero]; intro i hi; simp [h i hi]
theorem atD_cons_lt {i : Itm} {p : List Itm} {d : Dig} (h : ltD i.1 d) : atD (i :: p) d = atD p d + 1 := by
  unfold atD; rw [List.countP_cons_of_pos (by simp [h])]
theorem atD_cons_ge {i : Itm} {p : List Itm} {d : Dig} (ha : AscI (i :: p)) (h : ¬ ltD i.1 d) : atD (i :: p) d = 0 :=
  atD_zero (fun j hj => by
    rcases List.mem_cons.1 hj with rfl | hj
    · exact h
    · exact fun hl => h (ltD_trans (ha.head hj) hl))
theorem atD_below {p : List Itm} {d : Dig} (ha : AscI p) : ∀ {k : Nat} {i : Itm}, p[k]? = some i → k < atD p d → ltD i.1 d := by
  induction p with
  | nil => intro k i h; simp at h
  | cons j p ih =>
    intro k i h hk
    by_cases hj : ltD j.1 d
    · rw [atD_cons_lt hj] at hk
      cases k with
      | zero => simp at h; subst h; exact hj
      | succ k => simp at h; exact ih ha.tail h (by omega)
    · rw [atD_cons_ge ha hj] at hk; omega
theorem atD_above {p : List Itm} {d : Dig} (ha : AscI p) : ∀ {k : Nat} {i : Itm}, p[k]? = some i → atD p d ≤ k → ¬ ltD i.1 d := by
  induction p with
  | nil => intro k i h; simp at h
  | cons j p ih =>
    intro k i h hk
    by_cases hj : ltD j.1 d
    · rw [atD_cons_lt hj] at hk
      cases k with
      | zero => omega
      | succ k => simp at h; exact ih ha.tail h (by omega)
    · cases k with
      | zero => simp at h; subst h; exact hj
      | succ k =>
        simp at h
        exact fun hl => hj (ltD_trans (ha.head (List.mem_of_getElem? h)) hl)
def findP (p : List Itm) (d : Dig) : Option ByteArray := match p[atD p d]? with
  | some i => if i.1 = d then some i.2 else none
  | none => none
theorem AscI.uniq {p : List Itm} (ha : AscI p) {i j : Itm} (hi : i ∈ p) (hj : j ∈ p) (h : i.1 = j.1) : i = j := by
  induction p with
  | nil => cases hi
  | cons x p ih =>
    rcases List.mem_cons.1 hi with h1 | h1
    · rcases List.mem_cons.1 hj with h2 | h2
      · rw [h1, h2]
      · exact absurd h (ltD_ne (by rw [h1]; exact ha.head h2))
    · rcases List.mem_cons.1 hj with h2 | h2
      · exact absurd h.symm (ltD_ne (by rw [h2]; exact ha.head h1))
      · exact ih ha.tail h1 h2
theorem findP_some {p : List Itm} (ha : AscI p) {d : Dig} {b : ByteArray} : findP p d = some b ↔ (d, b) ∈ p := by
  induction p with
  | nil => simp [findP]
  | cons x p ih =>
    by_cases hx : ltD x.1 d
    · have e : findP (x :: p) d = findP p d := by unfold findP; rw [atD_cons_lt hx]; simp
      rw [e, ih ha.tail, List.mem_cons]
      exact ⟨.inr, fun h => h.resolve_left (fun h => by rw [← h] at hx; exact ltD_irrefl _ hx)⟩
    · unfold findP
      rw [atD_cons_ge ha hx]
      simp only [List.getElem?_cons_zero, List.mem_cons]
      by_cases he : x.1 = d
      · rw [if_pos he]
        constructor
        · intro h; cases h; left; rw [← he]
        · rintro (h | h)
          · rw [← h]
          · have := ha.head h
            rw [he] at this
            exact absurd this (ltD_irrefl _)
      · rw [if_neg he]
        constructor
        · intro h; cases h
        · rintro (h | h)
          · rw [← h] at he; exact absurd rfl he
          · exact absurd (ha.head h) hx
theorem findP_none {p : List Itm} (ha : AscI p) {d : Dig} : findP p d = none ↔ ∀ b, (d, b) ∉ p := by
  constructor
  · intro h b hb; rw [(findP_some ha).2 hb] at h; cases h
  · intro h
    cases hf : findP p d with
    | none => rfl
    | some b => exact absurd ((findP_some ha).1 hf) (h b)
def insP (p : List Itm) (x : Itm) : Option (List Itm) := match findP p x.1 with
  | some b => if b = x.2 then some p else none
  | none => some (p.take (atD p x.1) ++ [x] ++ p.drop (atD p x.1))
theorem insP_mem {p q : List Itm} {x : Itm} (ha : AscI p) (h : insP p x = some q) (i : Itm) : i ∈ q ↔ i ∈ p ∨ i = x := by
  unfold insP at h
  cases hf : findP p x.1 with
  | some b =>
    rw [hf] at h
    simp only at h
    split at h
    · rename_i e; cases h
      have := (findP_some ha).1 hf
      rw [e] at this
      exact ⟨.inl, fun h => h.elim id (fun h => by rw [h]; exact this)⟩
    · cases h
  | none =>
    rw [hf] at h
    cases h
    have e : i ∈ p ↔ i ∈ p.take (atD p x.1) ∨ i ∈ p.drop (atD p x.1) := by rw [← List.mem_append, List.take_append_drop]
    rw [e]
    simp only [List.mem_append, List.mem_singleton]
    constructor
    · rintro ((h | h) | h)
      · exact .inl (.inl h)
      · exact .inr h
      · exact .inl (.inr h)
    · rintro ((h | h) | h)
      · exact .inl (.inl h)
      · exact .inr h
      · exact .inl (.inr h)
theorem insP_asc {p q : List Itm} {x : Itm} (ha : AscI p) (h : insP p x = some q) : AscI q := by
  unfold insP at h
  cases hf : findP p x.1 with
  | some b =>
    rw [hf] at h
    simp only at h
    split at h
    · cases h; exact ha
    · cases h
  | none =>
    rw [hf] at h
    cases h
    have hn := (findP_none ha).1 hf
    have h1 : ∀ a ∈ p.take (atD p x.1), ltD a.1 x.1 := fun a hm => by
      obtain ⟨k, hk⟩ := List.mem_iff_getElem?.1 hm
      have hl : k < atD p x.1 := by
        have := (List.getElem?_eq_some_iff.1 hk).1
        rw [List.length_take] at this; omega
      rw [List.getElem?_take_of_lt hl] at hk
      exact atD_below ha hk hl
    have h2 : ∀ b ∈ p.drop (atD p x.1), ltD x.1 b.1 := fun b hm => by
      obtain ⟨k, hk⟩ := List.mem_iff_getElem?.1 hm
      rw [List.getElem?_drop] at hk
      have := atD_above (d := x.1) ha hk (by omega)
      have hb : b ∈ p := List.mem_of_getElem? hk
      by_cases hl : ltD x.1 b.1
      · exact hl
      · have e := ltD_conn hl this
        have h3 := hn b.2
        rw [show (x.1, b.2) = b by rw [e]] at h3
        exact absurd hb h3
    unfold AscI at ha ⊢
    rw [← List.take_append_drop (atD p x.1) p] at ha
    rw [List.pairwise_append] at ha
    rw [List.append_assoc, List.pairwise_append]
    refine ⟨ha.1, ?_, ?_⟩
    · rw [List.singleton_append, List.pairwise_cons]
      exact ⟨h2, ha.2.1⟩
    · intro a hm b hb
      rw [List.singleton_append, List.mem_cons] at hb
      rcases hb with rfl | hb
      · exact h1 a hm
      · exact ltD_trans (h1 a hm) (h2 b hb)
theorem insP_len {p q : List Itm} {x : Itm} (h : insP p x = some q) : q.length ≤ p.length + 1 := by
  unfold insP at h
  split at h
  · split at h
    · cases h; omega
    · cases h
  · cases h; simp; omega
theorem insP_same {p : List Itm} {x : Itm} (ha : AscI p) (h : x ∈ p) : insP p x = some p := by
  unfold insP
  rw [(findP_some ha).2 (show (x.1, x.2) ∈ p from h)]
  simp
theorem AscI.ext {p q : List Itm} (hp : AscI p) (hq : AscI q) (h : ∀ i, i ∈ p ↔ i ∈ q) : p = q := by
  induction p generalizing q with
  | nil =>
    cases q with
    | nil => rfl
    | cons y q => exact absurd ((h y).2 (by simp)) (by simp)
  | cons x p ih =>
    cases q with
    | nil => exact absurd ((h x).1 (by simp)) (by simp)
    | cons y q =>
      have e : x = y := by
        have h1 := (h x).1 (by simp)
        have h2 := (h y).2 (by simp)
        rcases List.mem_cons.1 h1 with e | h1
        · exact e
        rcases List.mem_cons.1 h2 with e | h2
        · exact e.symm
        exact absurd (ltD_trans (hq.head h1) (hp.head h2)) (ltD_irrefl _)
      subst e
      rw [ih hp.tail hq.tail]
      intro i
      constructor
      · intro hi
        rcases List.mem_cons.1 ((h i).1 (List.mem_cons_of_mem _ hi)) with rfl | h'
        · exact absurd (hp.head hi) (ltD_irrefl _)
        · exact h'
      · intro hi
        rcases List.mem_cons.1 ((h i).2 (List.mem_cons_of_mem _ hi)) with rfl | h'
        · exact absurd (hq.head hi) (ltD_irrefl _)
        · exact h'
theorem PlOk.ins {p q : List Itm} {o : Ob} (h : PlOk p) (ho : OkO o) (hi : insP p (ofB (encO o), ofL (encO o)) = some q) : PlOk q :=
  ⟨fun i hm => ((insP_mem h.asc hi i).1 hm).elim (h.enc i) (fun e => ⟨o, ho, by rw [e]⟩),
   fun i hm => ((insP_mem h.asc hi i).1 hm).elim (h.dg i) (fun e => by rw [e]; simp only; rw [toL_ofL]),
   insP_asc h.asc hi⟩
open Classical in
noncomputable def decO (s : ByteArray) : Ob := if h : ∃ o, OkO o ∧ s = ofL (encO o) then h.choose else ⟨0, ⟨#[]⟩, [], zD, [], ⟨#[]⟩, 0, ⟨#[]⟩⟩
theorem decO_enc {o : Ob} (ho : OkO o) : decO (ofL (encO o)) = o := by
  have h : ∃ o', OkO o' ∧ ofL (encO o) = ofL (encO o') := ⟨o, ho, rfl⟩
  unfold decO
  rw [dif_pos h]
  have hs := h.choose_spec
  have : encO o = encO h.choose := by have := congrArg toL hs.2; rwa [toL_ofL, toL_ofL] at this
  exact (encO_inj this ho.f hs.1.f).symm
noncomputable def getP (p : List Itm) (d : Dig) : Option Ob := (findP p d).map decO
theorem getP_some {p : List Itm} (h : PlOk p) {d : Dig} {o : Ob} : getP p d = some o ↔ OkO o ∧ (d, ofL (encO o)) ∈ p := by
  unfold getP
  rw [Option.map_eq_some_iff]
  constructor
  · rintro ⟨b, hb, rfl⟩
    have hm := (findP_some h.asc).1 hb
    obtain ⟨o, ho, e⟩ := h.enc _ hm
    simp only at e
    rw [e, decO_enc ho]
    rw [e] at hm
    exact ⟨ho, hm⟩
  · rintro ⟨ho, hm⟩
    exact ⟨_, (findP_some h.asc).2 hm, decO_enc ho⟩
theorem getP_ok {p : List Itm} (h : PlOk p) {d : Dig} {o : Ob} (hg : getP p d = some o) : OkO o := ((getP_some h).1 hg).1
theorem getP_none {p : List Itm} {d : Dig} : getP p d = none ↔ findP p d = none := by
  unfold getP; rw [Option.map_eq_none_iff]
def putP (p : List Itm) (o : Ob) : Option (List Itm) := insP p (ofB (encO o), ofL (encO o))
def dgO (o : Ob) : Dig := ofB (encO o)
theorem putP_ok {p q : List Itm} {o : Ob} (h : PlOk p) (ho : OkO o) (hi : putP p o = some q) : PlOk q := h.ins ho hi
theorem putP_get {p q : List Itm} {o : Ob} (h : PlOk p) (ho : OkO o) (hi : putP p o = some q) : getP q (dgO o) = some o :=
  (getP_some (putP_ok h ho hi)).2 ⟨ho, (insP_mem h.asc hi _).2 (.inr rfl)⟩
def subP (p q : List Itm) : Prop := ∀ i ∈ p, i ∈ q
theorem subP.refl (p : List Itm) : subP p p := fun _ h => h
theorem subP.trans {p q r : List Itm} (h : subP p q) (k : subP q r) : subP p r := fun i hi => k i (h i hi)
theorem putP_sub {p q : List Itm} {o : Ob} (h : PlOk p) (hi : putP p o = some q) : subP p q := fun i hm => (insP_mem h.asc hi i).2 (.inl hm)
theorem getP_mono {p q : List Itm} (hp : PlOk p) (hq : PlOk q) (hs : subP p q) {d : Dig} {o : Ob} (h : getP p d = some o) : getP q d = some o :=
  (getP_some hq).2 ⟨((getP_some hp).1 h).1, hs _ ((getP_some hp).1 h).2⟩
theorem putP_again {p : List Itm} {o : Ob} (h : PlOk p) (hg : getP p (dgO o) = some o) : putP p o = some p :=
  insP_same h.asc ((getP_some h).1 hg).2
theorem getP_dg {p : List Itm} (h : PlOk p) {d : Dig} {o : Ob} (hg : getP p d = some o) : d = dgO o := by
  have := h.dg _ ((getP_some h).1 hg).2
  simp only at this
  rw [toL_ofL] at this; exact this
end Go.Proofs.YtmdhlkkekidknaaGreatDoor

namespace Go.Proofs.YtmdhlkkekidknaaGreatDoor
open Go.RowKit

def slB : ByteArray := ⟨#[47]⟩
noncomputable def vsE (g : Dig → ByteArray → List Fl × Int) (p : List Itm) (pre : ByteArray) : List Ent → List Fl × Int
  | [] => ([], 0)
  | e :: r =>
    if 100 < (pre ++ e.nm).size then ([], 4)
    else if e.dir = true then
      (let s := g e.dg (pre ++ e.nm ++ slB); if s.2 = 0 then (s.1 ++ (vsE g p pre r).1, (vsE g p pre r).2) else s)
    else match getP p e.dg with
      | none => ([], 8)
      | some o => if o.kind = 1 then ((pre ++ e.nm, o.data) :: (vsE g p pre r).1, (vsE g p pre r).2) else ([], 9)
noncomputable def vis (p : List Itm) : Nat → Dig → ByteArray → List Fl × Int
  | 0, _, _ => ([], 4)
  | n + 1, d, pre => match getP p d with
    | none => ([], 8)
    | some o => if o.kind = 2 then (if o.ents = [] ∧ pre ≠ ⟨#[]⟩ then ([], 1) else vsE (vis p n) p pre o.ents) else ([], 9)
theorem vsE_far {g : Dig → ByteArray → List Fl × Int} {p : List Itm} {pre : ByteArray} {e : Ent} {r : List Ent} (h : 100 < (pre ++ e.nm).size) : vsE g p pre (e :: r) = ([], 4) := by rw [vsE, if_pos h]
theorem vsE_dir {g : Dig → ByteArray → List Fl × Int} {p : List Itm} {pre : ByteArray} {e : Ent} {r : List Ent} (h : ¬ 100 < (pre ++ e.nm).size) (hd : e.dir = true) {s : List Fl} (hs : g e.dg (pre ++ e.nm ++ slB) = (s, 0)) :
    vsE g p pre (e :: r) = (s ++ (vsE g p pre r).1, (vsE g p pre r).2) := by rw [vsE, if_neg h, if_pos hd, hs]; rfl
theorem vsE_sub {g : Dig → ByteArray → List Fl × Int} {p : List Itm} {pre : ByteArray} {e : Ent} {r : List Ent} (h : ¬ 100 < (pre ++ e.nm).size) (hd : e.dir = true) {s : List Fl} {z : Int} (hz : z ≠ 0) (hs : g e.dg (pre ++ e.nm ++ slB) = (s, z)) :
    vsE g p pre (e :: r) = (s, z) := by rw [vsE, if_neg h, if_pos hd, hs]; simp only [if_neg hz]
theorem vsE_none {g : Dig → ByteArray → List Fl × Int} {p : List Itm} {pre : ByteArray} {e : Ent} {r : List Ent} (h : ¬ 100 < (pre ++ e.nm).size) (hd : e.dir = false) (hg : getP p e.dg = none) :
    vsE g p pre (e :: r) = ([], 8) := by rw [vsE, if_neg h, if_neg (by rw [hd]; simp), hg]
theorem vsE_kind {g : Dig → ByteArray → List Fl × Int} {p : List Itm} {pre : ByteArray} {e : Ent} {r : List Ent} (h : ¬ 100 < (pre ++ e.nm).size) (hd : e.dir = false) {o : Ob} (hg : getP p e.dg = some o) (hk : o.kind ≠ 1) :
    vsE g p pre (e :: r) = ([], 9) := by rw [vsE, if_neg h, if_neg (by rw [hd]; simp), hg]; simp only [if_neg hk]
theorem vsE_file {g : Dig → ByteArray → List Fl × Int} {p : List Itm} {pre : ByteArray} {e : Ent} {r : List Ent} (h : ¬ 100 < (pre ++ e.nm).size) (hd : e.dir = false) {o : Ob} (hg : getP p e.dg = some o) (hk : o.kind = 1) :
    vsE g p pre (e :: r) = ((pre ++ e.nm, o.data) :: (vsE g p pre r).1, (vsE g p pre r).2) := by rw [vsE, if_neg h, if_neg (by rw [hd]; simp), hg]; simp only [if_pos hk]
def VisAt (g : Dig → ByteArray → List Fl × Int) (p : List Itm) (pre : ByteArray) (es : List Ent) (j : Nat) (fs : List Fl) : Prop := vsE g p pre es = (fs ++ (vsE g p pre (es.drop j)).1, (vsE g p pre (es.drop j)).2)
theorem VisAt.start (g : Dig → ByteArray → List Fl × Int) (p : List Itm) (pre : ByteArray) (es : List Ent) : VisAt g p pre es 0 [] := rfl
theorem drop_at {α : Type} {l : List α} {j : Nat} {x : α} (h : l[j]? = some x) : l.drop j = x :: l.drop (j + 1) := by
  obtain ⟨hl, rfl⟩ := List.getElem?_eq_some_iff.1 h
  exact List.drop_eq_getElem_cons hl
theorem VisAt.done {g : Dig → ByteArray → List Fl × Int} {p : List Itm} {pre : ByteArray} {es : List Ent} {j : Nat} {fs : List Fl} (h : VisAt g p pre es j fs) (hj : es.length ≤ j) : vsE g p pre es = (fs, 0) := by
  unfold VisAt at h; rw [List.drop_of_length_le hj] at h; rw [h]; simp [vsE]
theorem VisAt.fail {g : Dig → ByteArray → List Fl × Int} {p : List Itm} {pre : ByteArray} {es : List Ent} {j : Nat} {fs gs : List Fl} {z : Int} {e : Ent} (h : VisAt g p pre es j fs) (hj : es[j]? = some e) (hz : vsE g p pre (e :: es.drop (j + 1)) = (gs, z)) : vsE g p pre es = (fs ++ gs, z) := by
  unfold VisAt at h; rw [drop_at hj, hz] at h; exact h
theorem VisAt.more {g : Dig → ByteArray → List Fl × Int} {p : List Itm} {pre : ByteArray} {es : List Ent} {j : Nat} {fs gs : List Fl} {e : Ent} (h : VisAt g p pre es j fs) (hj : es[j]? = some e)
    (hz : vsE g p pre (e :: es.drop (j + 1)) = (gs ++ (vsE g p pre (es.drop (j + 1))).1, (vsE g p pre (es.drop (j + 1))).2)) : VisAt g p pre es (j + 1) (fs ++ gs) := by
  unfold VisAt at h ⊢; rw [drop_at hj, hz] at h; rw [h, List.append_assoc]
theorem vis_none {p : List Itm} {n : Nat} {d : Dig} {pre : ByteArray} (h : getP p d = none) : vis p (n + 1) d pre = ([], 8) := by rw [vis, h]
theorem vis_kind {p : List Itm} {n : Nat} {d : Dig} {pre : ByteArray} {o : Ob} (h : getP p d = some o) (hk : o.kind ≠ 2) : vis p (n + 1) d pre = ([], 9) := by rw [vis, h]; simp only [if_neg hk]
theorem vis_empty {p : List Itm} {n : Nat} {d : Dig} {pre : ByteArray} {o : Ob} (h : getP p d = some o) (hk : o.kind = 2) (he : o.ents = []) (hp : pre ≠ ⟨#[]⟩) : vis p (n + 1) d pre = ([], 1) := by rw [vis, h]; simp only [if_pos hk, if_pos (And.intro he hp)]
theorem vis_ents {p : List Itm} {n : Nat} {d : Dig} {pre : ByteArray} {o : Ob} (h : getP p d = some o) (hk : o.kind = 2) (he : ¬ (o.ents = [] ∧ pre ≠ ⟨#[]⟩)) : vis p (n + 1) d pre = vsE (vis p n) p pre o.ents := by rw [vis, h]; simp only [if_pos hk, if_neg he]
noncomputable def visW (p : List Itm) (d : Dig) : List Fl × Int := vis p 102 d ⟨#[]⟩
def AscF (l : List Fl) : Prop := l.Pairwise (fun a b => less a.1 b.1 = true)
structure LdSeq (p : List Itm) (d : Dig) (fs : List Fl) : Prop where
  few : (visW p d).1.length ≤ 200
  ok : (visW p d).2 = 0
  perm : fs.Perm (visW p d).1
  asc : AscF fs
def LodE (p : List Itm) (d : Dig) (err : Int) : Prop := (200 < (visW p d).1.length ∧ err = 4) ∨ ((visW p d).1.length ≤ 200 ∧ (visW p d).2 ≠ 0 ∧ err = (visW p d).2)
theorem AscF.tail {f : Fl} {l : List Fl} (h : AscF (f :: l)) : AscF l := (List.pairwise_cons.1 h).2
theorem AscF.head {f g : Fl} {l : List Fl} (h : AscF (f :: l)) (hg : g ∈ l) : less f.1 g.1 = true := (List.pairwise_cons.1 h).1 g hg
theorem AscF.ext {l m : List Fl} (hl : AscF l) (hm : AscF m) (h : ∀ f, f ∈ l ↔ f ∈ m) : l = m := by
  induction l generalizing m with
  | nil =>
    cases m with
    | nil => rfl
    | cons y q => exact absurd ((h y).2 (by simp)) (by simp)
  | cons x p ih =>
    cases m with
    | nil => exact absurd ((h x).1 (by simp)) (by simp)
    | cons y q =>
      have e : x = y := by
        have h1 := (h x).1 (by simp)
        have h2 := (h y).2 (by simp)
        rcases List.mem_cons.1 h1 with e | h1
        · exact e
        rcases List.mem_cons.1 h2 with e | h2
        · exact e.symm
        exact absurd (lessB_trans (hm.head h1) (hl.head h2)) (by rw [lessB_irrefl]; simp)
      subst e
      rw [ih hl.tail hm.tail]
      intro i
      constructor
      · intro hi
        rcases List.mem_cons.1 ((h i).1 (List.mem_cons_of_mem _ hi)) with rfl | h'
        · exact absurd (hl.head hi) (by rw [lessB_irrefl]; simp)
        · exact h'
      · intro hi
        rcases List.mem_cons.1 ((h i).2 (List.mem_cons_of_mem _ hi)) with rfl | h'
        · exact absurd (hm.head hi) (by rw [lessB_irrefl]; simp)
        · exact h'
theorem LdSeq.uniq {p : List Itm} {d : Dig} {fs gs : List Fl} (h : LdSeq p d fs) (g : LdSeq p d gs) : fs = gs :=
  AscF.ext h.asc g.asc (fun f => by rw [h.perm.mem_iff, g.perm.mem_iff])
end Go.Proofs.YtmdhlkkekidknaaGreatDoor

namespace Go.Proofs.YtmdhlkkekidknaaGreatDoor
open Go.RowKit

theorem bl_app (a b : ByteArray) : bl (a ++ b) = bl a ++ bl b := by
  unfold bl
  rw [ByteArray.data_append, Array.toList_append]
theorem bl_inj {a b : ByteArray} (h : bl a = bl b) : a = b := by rw [← ub_bl a, ← ub_bl b, h]
theorem bl_slB : bl slB = [47] := rfl
def NoSl (s : ByteArray) : Prop := ∀ c ∈ bl s, c ≠ 47
theorem vch_nosl {c : UInt8} (h : vchB c = true) : c ≠ 47 := by
  rintro rfl; revert h; decide
theorem name_nosl {s : ByteArray} (h : nameB s = true) : NoSl s := by
  unfold nameB nameL at h
  simp only [Bool.and_eq_true, List.all_eq_true] at h
  exact fun c hc => vch_nosl (h.2.2.2.2 c hc)
theorem name_len {s : ByteArray} (h : nameB s = true) : 1 ≤ s.size ∧ s.size ≤ 24 := by
  unfold nameB nameL at h
  simp only [Bool.and_eq_true, decide_eq_true_eq] at h
  rw [size_len]; exact ⟨h.1, h.2.1⟩
def Tl (r : List UInt8) : Prop := r = [] ∨ ∃ r', r = 47 :: r'
theorem take_name {n r : List UInt8} (hn : ∀ c ∈ n, c ≠ 47) (hr : Tl r) : (n ++ r).takeWhile (fun c => decide (c ≠ 47)) = n := by
  induction n with
  | nil =>
    rcases hr with rfl | ⟨r', rfl⟩ <;> simp
  | cons c n ih =>
    rw [List.cons_append, List.takeWhile_cons_of_pos (by simp [hn c (by simp)]), ih (fun d hd => hn d (by simp [hd]))]
theorem name_eq {n m : ByteArray} {r t : List UInt8} (hn : NoSl n) (hm : NoSl m) (hr : Tl r) (ht : Tl t) (h : bl n ++ r = bl m ++ t) : n = m ∧ r = t := by
  have h1 := take_name hn hr
  rw [h, take_name hm ht] at h1
  have e := bl_inj h1
  subst e
  exact ⟨rfl, List.append_cancel_left h⟩
def Und (pre : ByteArray) (fs : List Fl) : Prop := ∀ f ∈ fs, ∃ r, bl f.1 = bl pre ++ r
theorem vsE_at {g : Dig → ByteArray → List Fl × Int} {p : List Itm} {pre : ByteArray} (hg : ∀ d q, Und q (g d q).1) : ∀ {es : List Ent} {f : Fl}, f ∈ (vsE g p pre es).1 → ∃ e ∈ es, ∃ r, Tl r ∧ bl f.1 = bl pre ++ (bl e.nm ++ r) := by
  intro es
  induction es with
  | nil => intro f h; cases h
  | cons e es ih =>
    intro f h
    have more : f ∈ (vsE g p pre es).1 → ∃ e' ∈ e :: es, ∃ r, Tl r ∧ bl f.1 = bl pre ++ (bl e'.nm ++ r) := fun h => by
      obtain ⟨e', he, r, h1, h2⟩ := ih h
      exact ⟨e', List.mem_cons_of_mem _ he, r, h1, h2⟩
    have sub : f ∈ (g e.dg (pre ++ e.nm ++ slB)).1 → ∃ e' ∈ e :: es, ∃ r, Tl r ∧ bl f.1 = bl pre ++ (bl e'.nm ++ r) := fun h => by
      obtain ⟨r, hr⟩ := hg _ _ f h
      rw [bl_app, bl_app, bl_slB] at hr
      exact ⟨e, by simp, 47 :: r, .inr ⟨r, rfl⟩, by rw [hr]; simp⟩
    by_cases hf : 100 < (pre ++ e.nm).size
    · rw [vsE_far hf] at h; cases h
    · cases hd : e.dir with
      | true =>
        by_cases hz : (g e.dg (pre ++ e.nm ++ slB)).2 = 0
        · rw [vsE_dir hf hd (s := (g e.dg (pre ++ e.nm ++ slB)).1) (by rw [← hz])] at h
          rcases List.mem_append.1 h with h | h
          · exact sub h
          · exact more h
        · rw [vsE_sub hf hd (s := (g e.dg (pre ++ e.nm ++ slB)).1) hz rfl] at h
          exact sub h
      | false =>
        cases hp : getP p e.dg with
        | none => rw [vsE_none hf hd hp] at h; cases h
        | some o =>
          by_cases hk : o.kind = 1
          · rw [vsE_file hf hd hp hk] at h
            rcases List.mem_cons.1 h with rfl | h
            · exact ⟨e, by simp, [], .inl rfl, by simp [bl_app]⟩
            · exact more h
          · rw [vsE_kind hf hd hp hk] at h; cases h
theorem vis_und (p : List Itm) : ∀ (n : Nat) (d : Dig) (pre : ByteArray), Und pre (vis p n d pre).1 := by
  intro n
  induction n with
  | zero => intro d pre f h; cases h
  | succ n ih =>
    intro d pre f h
    rw [vis] at h
    split at h
    · cases h
    · split at h
      · split at h
        · cases h
        · obtain ⟨e, _, r, _, hr⟩ := vsE_at ih h
          exact ⟨_, hr⟩
      · cases h
theorem asc_names {es : List Ent} (h : OkEs es) : es.Pairwise (fun a b => a.nm ≠ b.nm) := by
  have hp : es.Pairwise (fun a b => less a.nm b.nm = true) := by
    rw [List.pairwise_iff_getElem]
    intro i j hi hj hij
    have key : ∀ k, i + k + 1 < es.length → ∀ b, es[i + k + 1]? = some b → less es[i].nm b.nm = true := by
      intro k
      induction k with
      | zero => intro hk b hb; exact h.asc i _ _ (List.getElem?_eq_getElem hi) hb
      | succ k ih =>
        intro hk b hb
        have h1 := ih (by omega) _ (List.getElem?_eq_getElem (by omega))
        exact lessB_trans h1 (h.asc (i + k + 1) _ _ (List.getElem?_eq_getElem (by omega)) (by rw [show i + k + 1 + 1 = i + (k + 1) + 1 by omega]; exact hb))
    exact key (j - i - 1) (by omega) _ (by rw [show i + (j - i - 1) + 1 = j by omega]; exact List.getElem?_eq_getElem hj)
  exact hp.imp (fun h => lessB_ne h)
theorem vsE_nodup {g : Dig → ByteArray → List Fl × Int} {p : List Itm} {pre : ByteArray} (hg : ∀ d q, Und q (g d q).1) (hn : ∀ d q, ((g d q).1.map Prod.fst).Nodup) :
    ∀ {es : List Ent}, es.Pairwise (fun a b => a.nm ≠ b.nm) → (∀ e ∈ es, NoSl e.nm) → ((vsE g p pre es).1.map Prod.fst).Nodup := by
  intro es
  induction es with
  | nil => intro _ _; exact List.nodup_nil
  | cons e es ih =>
    intro ha hs
    have ha' := List.pairwise_cons.1 ha
    have ih' := ih ha'.2 (fun e' he => hs e' (by simp [he]))
    have far : ∀ f ∈ (vsE g p pre es).1, ∀ r, Tl r → bl f.1 ≠ bl pre ++ (bl e.nm ++ r) := fun f hf r hr he => by
      obtain ⟨e', he', r', hr', h2⟩ := vsE_at hg hf
      rw [h2] at he
      have := (name_eq (hs e' (by simp [he'])) (hs e (by simp)) hr' hr (List.append_cancel_left he)).1
      exact ha'.1 e' he' this.symm
    by_cases hf : 100 < (pre ++ e.nm).size
    · rw [vsE_far hf]; exact List.nodup_nil
    · cases hd : e.dir with
      | true =>
        by_cases hz : (g e.dg (pre ++ e.nm ++ slB)).2 = 0
        · rw [vsE_dir hf hd (s := (g e.dg (pre ++ e.nm ++ slB)).1) (by rw [← hz]), List.map_append, List.nodup_append]
          refine ⟨hn _ _, ih', ?_⟩
          intro a ha b hb hab
          obtain ⟨f, hf1, rfl⟩ := List.mem_map.1 ha
          obtain ⟨f', hf2, rfl⟩ := List.mem_map.1 hb
          obtain ⟨r, hr⟩ := hg _ _ f hf1
          rw [bl_app, bl_app, bl_slB] at hr
          refine far f' hf2 (47 :: r) (.inr ⟨r, rfl⟩) ?_
          rw [← hab, hr]; simp
        · rw [vsE_sub hf hd (s := (g e.dg (pre ++ e.nm ++ slB)).1) hz rfl]
          exact hn _ _
      | false =>
        cases hp : getP p e.dg with
        | none => rw [vsE_none hf hd hp]; exact List.nodup_nil
        | some o =>
          by_cases hk : o.kind = 1
          · rw [vsE_file hf hd hp hk, List.map_cons, List.nodup_cons]
            refine ⟨fun hm => ?_, ih'⟩
            obtain ⟨f, hf1, he⟩ := List.mem_map.1 hm
            exact far f hf1 [] (.inl rfl) (by rw [he]; simp [bl_app])
          · rw [vsE_kind hf hd hp hk]; exact List.nodup_nil
theorem okO_tree {o : Ob} (h : OkO o) (hk : o.kind = 2) : OkEs o.ents := by
  cases h.f with
  | blob k _ _ _ => rcases k with k | k <;> omega
  | tree _ _ _ e => exact e
  | commit k _ _ _ => omega
theorem vis_nodup {p : List Itm} (h : PlOk p) : ∀ (n : Nat) (d : Dig) (pre : ByteArray), ((vis p n d pre).1.map Prod.fst).Nodup := by
  intro n
  induction n with
  | zero => intro d pre; exact List.nodup_nil
  | succ n ih =>
    intro d pre
    rw [vis]
    split
    · exact List.nodup_nil
    · rename_i o ho
      split
      · rename_i hk
        split
        · exact List.nodup_nil
        · have hes := okO_tree (getP_ok h ho) hk
          exact vsE_nodup (vis_und p n) ih (asc_names hes) (fun e he => name_nosl (hes.all e he).nm)
      · exact List.nodup_nil
end Go.Proofs.YtmdhlkkekidknaaGreatDoor

namespace Go.Proofs.YtmdhlkkekidknaaGreatDoor
open Go.RowKit Go.Shelf

def slashL : List UInt8 → Nat
  | [] => 0
  | c :: r => if c = 47 then 0 else slashL r + 1
theorem slashL_at : ∀ {l : List UInt8} {k : Nat}, (∀ j, j < k → l[j]? ≠ some 47) → k ≤ l.length → (k = l.length ∨ l[k]? = some 47) → slashL l = k
  | [], k, _, h, _ => by simp at h; simp [slashL, h]
  | c :: r, 0, _, _, h3 => by
    rcases h3 with h3 | h3
    · simp at h3
    · simp at h3; simp [slashL, h3]
  | c :: r, k + 1, h1, h2, h3 => by
    have hc : c ≠ 47 := fun e => h1 0 (by omega) (by simp [e])
    simp only [slashL, if_neg hc]
    rw [slashL_at (k := k) (fun j hj => by have := h1 (j + 1) (by omega); simpa using this) (by simp at h2; omega) (by
      rcases h3 with h3 | h3
      · left; simp at h3; omega
      · right; simpa using h3)]
theorem splitS_slash : ∀ (l : List UInt8), splitS l = if slashL l < l.length then l.take (slashL l) :: splitS (l.drop (slashL l + 1)) else [l]
  | [] => rfl
  | c :: r => by
    by_cases hc : c = 47
    · subst hc; simp [splitS, slashL]
    · have ih := splitS_slash r
      simp only [splitS, slashL, if_neg hc]
      rw [ih]
      by_cases h : slashL r < r.length
      · rw [if_pos h, if_pos (by simp; exact h)]; simp
      · rw [if_neg h, if_neg (by simp; omega)]

end Go.Proofs.YtmdhlkkekidknaaGreatDoor

namespace Go.Proofs.YtmdhlkkekidknaaGreatDoor
open Go.RowKit Go.Shelf
attribute [local go_sem] Oper.semAt_some

def pathB (s : ByteArray) : Bool := decide ((bl s).length ≤ 100) && (splitS (bl s)).all nameL
theorem resultsPth {w : World} {a : Array Value} {r : Nat} {x : Bool} (ha : a[2]?.getD undef = .pointer (some ⟨r, 0, none⟩)) (h : w.heap[r]? = some (.cells #[.bool x] 4 (0, 0))) :
    (results Tryz.f48 a).run Tryz.prog w = .ok (.bool x) w := by
  have hc := cell_of_one h
  simp [results, Tryz.results48, ha, go_sem, hc]

set_option maxRecDepth 100000 in
set_option maxHeartbeats 1000000 in
theorem isPath_any (s : ByteArray) (w : World) (hs : s.size ≤ maxLen) :
    Calls Tryz.prog 48 #[.string s] w fun e w' => e = .returned (.bool (pathB s)) ∧ Below w.heap.size w w' := by
  refine (callsIn_wide (n := 6)).1 ?_
  unfold maxLen at hs
  have HL := Lib.hid (size_len s)
  have hf65 : Fence.wide.fn 97 := trivial
  have hf66 : Fence.wide.fn 98 := trivial
  refine callsIn_of_wp_marks Tryz.func48 rfl trivial ?_ rfl
  simp only [Tryz.ntmps48, List.size_toArray, List.length_cons, List.length_nil, Nat.reduceAdd, Nat.reduceSub, Array.replicate_succ, Array.replicate_zero, List.push_toArray, List.append_toArray, List.nil_append, List.cons_append]
  by_cases c1 : 100 < (s.size : Int)
  · have hv : Hid (pathB s = false) := by
      show _ = _
      have := HL.out
      unfold pathB bl; rw [decide_eq_false (by omega), Bool.false_and]
    gi_wp2_with fail
    refine ⟨_, resultsPth rfl (World.alloc_heap_new w _), ?_⟩
    exact ⟨ret_bool hv.out.symm, (Below.refl _ _).alloc (Nat.le_refl _) _⟩
  have c1' : (s.size : Int) ≤ 100 := by omega
  have HN : Hid (pathB s = (splitS (bl s)).all nameL) := by
    show _ = _
    have := HL.out
    unfold pathB; rw [decide_eq_true (by unfold bl; omega), Bool.true_and]
  gi_wp2_with (gi_at_call 97; refine (callsIn_wide.2 (splitSeq_any _ _)).mono ?_; rintro e w' ⟨rfl, rfl⟩)
  obtain ⟨W0, hW0⟩ : ∃ W0, (((w.alloc (.cells #[.bool false] 4)).alloc (.cells #[.string s] 9)).alloc (.cells #[.string ⟨#[47]⟩] 9)).alloc (.cells #[.int .i64 0] 3) = W0 := ⟨_, rfl⟩
  have hz : W0.heap.size = w.heap.size + 4 := by rw [← hW0]; simp
  have g0 : W0.heap[w.heap.size]? = some (.cells #[.bool false] 4 (0, 0)) := by
    rw [← hW0]
    exact (Below.heap_alloc _ _ _ (by simp; omega)).trans ((Below.heap_alloc _ _ _ (by simp; omega)).trans ((Below.heap_alloc _ _ _ (by simp)).trans (World.alloc_heap_new w _)))
  have g1 : W0.heap[w.heap.size + 1]? = some (.cells #[.string s] 9 (0, 0)) := by
    rw [← hW0]
    refine (Below.heap_alloc _ _ _ (by simp)).trans ((Below.heap_alloc _ _ _ (by simp)).trans ?_)
    have := World.alloc_heap_new (w.alloc (.cells #[.bool false] 4)) (.cells #[.string s] 9); rwa [World.size_alloc] at this
  have g2 : W0.heap[w.heap.size + 1 + 1]? = some (.cells #[.string ⟨#[47]⟩] 9 (0, 0)) := by
    rw [← hW0]
    refine (Below.heap_alloc _ _ _ (by simp)).trans ?_
    have := World.alloc_heap_new ((w.alloc (.cells #[.bool false] 4)).alloc (.cells #[.string s] 9)) (.cells #[.string ⟨#[47]⟩] 9); rwa [World.size_alloc, World.size_alloc] at this
  have g3 : W0.heap[w.heap.size + 1 + 2]? = some (.cells #[.int .i64 0] 3 (0, 0)) := by
    rw [← hW0]
    have := World.alloc_heap_new (((w.alloc (.cells #[.bool false] 4)).alloc (.cells #[.string s] 9)).alloc (.cells #[.string ⟨#[47]⟩] 9)) (.cells #[.int .i64 0] 3); rwa [World.size_alloc, World.size_alloc, World.size_alloc] at this
  have hb0 : Below w.heap.size w W0 := by
    rw [← hW0]
    exact ((((Below.refl _ w).alloc (Nat.le_refl _) _).alloc (by simp) _).alloc (by simp; omega) _).alloc (by simp; omega) _
  rw [hW0]
  refine wpIn_rangeP (F := Fence.wide) (n := 6) rfl (by omega) (gf := 185) (lb := #[.pointer (some ⟨w.heap.size + 1 + 1, 0, none⟩), .pointer (some ⟨w.heap.size + 1, 0, none⟩), .pointer (some ⟨w.heap.size + 1 + 2, 0, none⟩)]) rfl trivial (enters_of Tryz.func185 (by kernel_rfl) rfl)
    (split1_st 5 (w.heap.size + 1) (by omega) s W0 (by omega) (by omega) g1 g2 g3) keepS_t (fun W l o hl => keepS_put (m := w.heap.size + 4) (by omega) W l o (by omega)) (stS_others) (Below.refl _ _) (fun _ => rfl)
    (fun pre W => W.heap[w.heap.size]? = some (.cells #[.bool false] 4 (0, 0)) ∧ Hid (∀ x ∈ pre, nameB x = true) ∧ Below w.heap.size w W ∧ w.heap.size + 4 ≤ W.heap.size)
    (fun c pre W => c = .ret ∧ W.heap[w.heap.size]? = some (.cells #[.bool false] 4 (0, 0)) ∧ Hid (∃ x ∈ pre, nameB x = false) ∧ Below w.heap.size w W)
    ?hI ?hIx ?hIS ⟨g0, by simp [Hid], hb0, by omega⟩ ?a1 ?assign ?body ?done ?stop
  case assign =>
    intro l x W K hK
    have HKK := Lib.hid hK
    clear hK
    gi_wp2
    exact HKK.out
  case hI =>
    rintro pre A B row ⟨h1, h2, h3, h4⟩ hg hr
    refine ⟨one_grown' h1 hg (fun e => ?_), h2, h3.grown hg h3.size (fun k e => ?_), Nat.le_trans h4 hg.size⟩
    · have := (hr _ e.symm).1; omega
    · have := (hr _ e).1; omega
  case hIx =>
    rintro c pre A B row ⟨h0, h1, h2, h3⟩ hg hr
    refine ⟨h0, one_grown' h1 hg (fun e => ?_), h2, h3.grown hg h3.size (fun k e => ?_)⟩
    · have := (hr _ e.symm).1; omega
    · have := (hr _ e).1; omega
  case hIS =>
    rintro pre A B ⟨h1, h2, h3, h4⟩ ⟨v, rfl⟩
    exact ⟨(Below.heap_setCell _ _ _ _ (by simp)).trans h1, h2, h3.setCell (p := ⟨w.heap.size + 1, 0, none⟩) (by simp) _, by simpa [World.setCell] using h4⟩
  case body =>
    rintro l pre x W ⟨r, hr⟩ ⟨h1, h2, h3, h4⟩
    have hxs : x.size ≤ maxLen := by
      have hm : bl x ∈ splitS (bl s) := by rw [← hr]; simp
      have h5 := splitS_len (bl s) _ hm
      have h6 := size_len x
      have h7 := HL.out
      unfold bl at h5; unfold maxLen; omega
    have c0 := cell_of_one h1
    have f0 := free_of_one h1
    have H1 := Lib.hid h1; have H3 := Lib.hid h3
    clear h1 h3 g0 g1 g2 g3 hb0 hW0 hr
    cases hv : nameB x with
    | true =>
      have HV := Lib.hid hv
      clear hv
      gi_wp2_with (gi_at_call 98; refine (CallsIn.inRound l (callsIn_wide.2 (vname_any x _ hxs))).mono ?_; rintro e w' ⟨rfl, rfl⟩; rw [HV.out])
      refine ⟨⟨Nat.le_refl _, fun k o hk _ => hk⟩, fun k h5 h6 => rfl, H1.out, ?_, H3.out, h4⟩
      intro y hy
      rcases List.mem_append.1 hy with h | h
      · exact h2.out y h
      · simp at h; subst h; exact HV.out
    | false =>
      have HV := Lib.hid hv
      clear hv
      gi_wp2_with (gi_at_call 98; refine (CallsIn.inRound l (callsIn_wide.2 (vname_any x _ hxs))).mono ?_; rintro e w' ⟨rfl, rfl⟩; rw [HV.out])
      exact ⟨KeepsOthers.setCell _ _ _, rfl, one_setCell H1.out, ⟨x, by simp, HV.out⟩, H3.out.setCell (p := ⟨w.heap.size, 0, none⟩) (Nat.le_refl _) _⟩
  case done =>
    rintro D xs W hD hS ⟨h1, h2, h3, h4⟩ hK
    have c0 := cell_of_one h1
    have f0 := free_of_one h1
    have H1 := Lib.hid h1; have H3 := Lib.hid h3; have HK := Lib.hid hK; have HS := Lib.hid hS
    clear h1 h3 hK hS
    gi_wp2
    have hK2 := (KeepsOthers.setCell W ⟨w.heap.size, 0, none⟩ (.bool true)).same D _ HK.out rfl
    refine ⟨by simp, .inl ⟨_, _, rfl, run_takeDeferred hK2, ?_⟩⟩
    refine ⟨_, resultsPth rfl ((World.putObj_heap_other (by omega)).trans (one_setCell H1.out)), ret_bool ?_, ?_⟩
    · rw [HN.out]
      symm
      rw [List.all_eq_true]
      intro y hy
      have hy' : y ∈ xs.map bl := by rw [HS.out]; exact hy
      obtain ⟨x, hx, rfl⟩ := List.mem_map.1 hy'
      exact h2.out x hx
    · exact (H3.out.setCell (p := ⟨w.heap.size, 0, none⟩) (Nat.le_refl _) _).grown (grownBy_putObj' _ _ _) ((H3.out.setCell (p := ⟨w.heap.size, 0, none⟩) (Nat.le_refl _) _).size) (fun k e => by cases e; omega)
  case stop =>
    rintro D c pre W hD hS ⟨rfl, h1, h2, h3⟩ hK
    have H1 := Lib.hid h1; have H3 := Lib.hid h3; have HK := Lib.hid hK; have HS := Lib.hid hS
    clear h1 h3 hK hS
    gi_wp2
    refine ⟨by simp, .inl ⟨_, _, rfl, run_takeDeferred HK.out, ?_⟩⟩
    refine ⟨_, resultsPth rfl ((World.putObj_heap_other (by omega)).trans H1.out), ret_bool ?_, ?_⟩
    · rw [HN.out]
      symm
      rw [List.all_eq_false]
      obtain ⟨x, hx, hxv⟩ := h2.out
      obtain ⟨r, hr⟩ := HS.out
      refine ⟨bl x, ?_, by simpa [nameB] using hxv⟩
      rw [← hr]
      exact List.mem_append.2 (.inl (List.mem_map.2 ⟨x, hx, rfl⟩))
    · exact H3.out.grown (grownBy_putObj' _ _ _) H3.out.size (fun k e => by cases e; omega)
end Go.Proofs.YtmdhlkkekidknaaGreatDoor

namespace Go.Proofs.YtmdhlkkekidknaaGreatDoor
open Go.RowKit

def Apd (w : World) (base : Nat) (e : TypeId) (size : Nat) (A : Option Addr) (n c : Nat) (xs : List Value) : Prop :=
  w.ownsRow base e size (.slice A n c) n xs ∨ (n = 0 ∧ c = 0 ∧ xs = [])

section
variable {P : Program} {w w' : World} {base size n c : Nat} {e : TypeId} {A : Option Addr} {xs : List Value}
theorem Apd.sl (h : Apd w base e size A n c xs) : Sl w w.heap.size size A n xs := by
  rcases h with h | ⟨rfl, rfl, rfl⟩
  · exact Sl.of_own h
  · exact Sl.nil _ _ _ _
theorem Apd.below (h : Apd w base e size A n c xs) (hb : Below w.heap.size w w') : Apd w' base e size A n c xs := by
  rcases h with h | h
  · exact .inl (h.kept (row := none) ⟨hb.os, hb.tape, hb.output, hb.size, fun k hk _ => hb.block k hk⟩ (by
      cases hv : (Value.slice A n c).ownBlock with
      | none => exact .inl rfl
      | some k => exact .inr (by simp)))
  · exact .inr h
theorem Apd.setCell (h : Apd w base e size A n c xs) {a : Addr} (ha : a.block < base) (u : Value) : Apd (w.setCell a u) base e size A n c xs := by
  rcases h with h | h
  · exact .inl (ownsRow_setCell_below h ha u)
  · exact .inr h
theorem below_of_none (hg : w.grownBy w' none) : Below w.heap.size w w' := ⟨hg.os, hg.tape, hg.output, hg.size, fun k hk => hg.block k hk (by simp)⟩

theorem run_append_empty (t ty : TypeId) (i : TypeInfo) (z : Value) (bytes : Nat) (ht : P.underlying t = some (.slice e)) (hi : P.info? e = some i) (hz : i.zero = some z)
    (hsize : i.size = size) (hby : i.bytes = bytes) (hzs : z.cells.size = size) (hsz : 0 < size)
    {B : Nat} {A' : Option Addr} {m c' : Nat} {ys : List Value} (hsl : Sl w B size A' m ys) (h1 : ∀ u ∈ ys, u.oneCell' = true)
    (h63 : m ≤ maxLen) (hbytes : m * bytes ≤ 140737488355328) (hbase : base ≤ w.heap.size) (A : Option Addr) :
    ∃ A2 c2 w', (Builtin.append_ #[t, t] ty #[.slice A 0 0, .slice A' m c']).run P w = .ok (.slice A2 m c2) w' ∧ Apd w' base e size A2 m c2 ys ∧ Below w.heap.size w w' ∧ m ≤ c2 ∧ c2 ≤ maxLen := by
  rcases Nat.eq_zero_or_pos m with h | hm
  · subst h
    have hy : ys = [] := by
      have := hsl.1; rw [Nat.zero_mul] at this; exact List.length_eq_zero_iff.1 this
    subst hy
    refine ⟨A, 0, w, ?_, .inr ⟨rfl, rfl, rfl⟩, Below.refl _ _, Nat.le_refl _, Nat.zero_le _⟩
    cases A <;> cases A' <;> simp [Builtin.append_, run_underlying ht, sizeOf, typeInfo, hi, Builtin.lenOf, Builtin.firstCells, loadCells, loadCellsFrom, storeCells]
  · -- as onto nil
    have hrun : (Builtin.append_ #[t, t] ty #[.slice A 0 0, .slice A' m c']).run P w = (Builtin.append_ #[t, t] ty #[.slice none 0 0, .slice A' m c']).run P w := by
      obtain ⟨b, off, rfl, _, _⟩ := hsl.2 hm
      cases A with
      | none => rfl
      | some ad =>
        have hroom : ¬ m = 0 := by omega
        have hfit : ¬ 281474976710656 < Builtin.nextslicecap m 0 * i.bytes := by
          have := growslice_fits (old := 0) (need := m) (bytes := bytes) (by omega) hbytes
          rw [hby]; omega
        simp [Builtin.append_, run_underlying ht, sizeOf, typeInfo, hi, Builtin.lenOf, Builtin.firstCells, loadCells, loadCellsFrom, hroom, hfit]
    obtain ⟨A2, c2, w2, hr, ho, hg, hc1, hc2⟩ := run_append_sl (P := P) (base := base) (v := .slice none 0 0) (n := 0) (xs := []) t ty i z bytes ht hi hz hsize hby hzs hsz (World.ownsRow_nil w base e size) (c := c') hsl h1 (by omega) (by rw [Nat.zero_add]; exact hbytes) hbase
    simp only [Nat.zero_add, List.nil_append] at hr ho hc1
    exact ⟨A2, c2, w2, hrun.trans hr, .inl ho, below_of_none hg, hc1, hc2⟩

def OthersKept (e : TypeId) (w w' : World) : Prop := ∀ (base size n : Nat) (e' : TypeId) (v : Value) (xs : List Value), e' ≠ e → w.ownsRow base e' size v n xs → w'.ownsRow base e' size v n xs
theorem run_append_apd (t ty : TypeId) (i : TypeInfo) (z : Value) (bytes : Nat) (ht : P.underlying t = some (.slice e)) (hi : P.info? e = some i) (hz : i.zero = some z)
    (hsize : i.size = size) (hby : i.bytes = bytes) (hzs : z.cells.size = size) (hsz : 0 < size) (ha : Apd w base e size A n c xs)
    {B : Nat} {A' : Option Addr} {m c' : Nat} {ys : List Value} (hsl : Sl w B size A' m ys) (h1 : ∀ u ∈ ys, u.oneCell' = true)
    (h63 : n + m ≤ maxLen) (hbytes : (n + m) * bytes ≤ 140737488355328) (hbase : base ≤ w.heap.size) :
    ∃ A2 c2 w', (Builtin.append_ #[t, t] ty #[.slice A n c, .slice A' m c']).run P w = .ok (.slice A2 (n + m) c2) w' ∧ Apd w' base e size A2 (n + m) c2 (xs ++ ys) ∧ Below base w w' ∧ n + m ≤ c2 ∧ c2 ≤ maxLen ∧ OthersKept e w w' := by
  rcases ha with h | ⟨rfl, rfl, rfl⟩
  · obtain ⟨A2, c2, w2, hr, ho, hg, hc1, hc2⟩ := run_append_sl (P := P) t ty i z bytes ht hi hz hsize hby hzs hsz h (c := c') hsl h1 h63 hbytes hbase
    exact ⟨A2, c2, w2, hr, .inl ho, (Below.refl _ w).grown hg hbase (fun k hk => ownBlock_ge h k hk), hc1, hc2, fun _ _ _ _ _ _ hne h' => h'.kept hg (ownsRow_apart h h' hne)⟩
  · obtain ⟨A2, c2, w2, hr, ho, hg, hc1, hc2⟩ := run_append_empty (P := P) (base := base) t ty i z bytes ht hi hz hsize hby hzs hsz (c' := c') hsl h1 (by omega) (by rw [Nat.zero_add] at hbytes; exact hbytes) hbase A
    rw [Nat.zero_add, List.nil_append]
    exact ⟨A2, c2, w2, hr, ho, hg.mono hbase, hc1, hc2, fun _ _ _ _ v _ _ h' => h'.kept (row := none) ⟨hg.os, hg.tape, hg.output, hg.size, fun k hk _ => hg.block k hk⟩ (by cases hv : v.ownBlock with | none => exact .inl rfl | some k => exact .inr (by simp))⟩

theorem wpList_append_apd (w : World) {ops : Array Oper} {rest : List Oper} {o : Oper} {a : Act} {Q : Exit → Act → World → Prop} (hgd : o.guard = none) (s x : Operand) (t : TypeId)
    (ho : o.op = .call { callee := .builtin .append, args := #[s, x], argTypes := #[t, t] })
    (e : TypeId) (i : TypeInfo) (z : Value) (bytes : Nat) (ht : P.underlying t = some (.slice e)) (hi : P.info? e = some i) (hz : i.zero = some z)
    (hsize : i.size = size) (hby : i.bytes = bytes) (hzs : z.cells.size = size) (hsz : 0 < size)
    (A : Option Addr) (n c : Nat) (xs : List Value) (hs : a.eval s = .slice A n c) (hown : Apd w base e size A n c xs)
    (B : Nat) (A' : Option Addr) (m c' : Nat) (ys : List Value) (hx : a.eval x = .slice A' m c') (hsl : Sl w B size A' m ys) (h1 : ∀ u ∈ ys, u.oneCell' = true)
    (h63 : n + m ≤ maxLen) (hbytes : (n + m) * bytes ≤ 140737488355328) (hbase : base ≤ w.heap.size)
    (h : ∀ A2 c2 w', Apd w' base e size A2 (n + m) c2 (xs ++ ys) → Below base w w' → n + m ≤ c2 → c2 ≤ maxLen → OthersKept e w w' → wpList P ops Q rest (a.put o.dst (.slice A2 (n + m) c2)) w') : wpList P ops Q (o :: rest) a w := by
  refine wpList_plain hgd fun K hK => ?_
  obtain ⟨A2, c2, w', hr, ho', hg, hc1, hc2, hok⟩ := run_append_apd (P := P) t o.type i z bytes ht hi hz hsize hby hzs hsz hown (c' := c') hsl h1 h63 hbytes hbase
  unfold Oper.wp
  simp [execOp, ho, resolve, invoke, builtin, hs, hx, hr, Result.andThen]
  exact hK _ _ (h A2 c2 w' ho' hg hc1 hc2 hok)
end
end Go.Proofs.YtmdhlkkekidknaaGreatDoor

namespace Go.Proofs.YtmdhlkkekidknaaGreatDoor
open Go.RowKit

section
variable {P : Program} {w w' : World} {base size n c : Nat} {e : TypeId} {A : Option Addr} {xs : List Value}
end
end Go.Proofs.YtmdhlkkekidknaaGreatDoor

namespace Go.Proofs.YtmdhlkkekidknaaGreatDoor
open Go.RowKit Go.Maps

def rawR (v : Value) : Option (DataW Value × List MemPlace) := some (.held v, [])
theorem rawR_inv {v u : Value} {ps : List MemPlace} (h : rawR v = some (.held u, ps)) : v = u := by
  simp [rawR] at h; exact h.1
def Rm (w : World) (P : Program) (k : TypeId) (b N : Nat) (g : ByteArray → Option Value) : Prop :=
  ∃ D : DataW Value, w.ownsMap P k rawR b N D ∧ ∀ s : ByteArray, Maps.has D (.string s.data.toList) = (g s).isSome ∧ ∀ z, D.atKey (.string s.data.toList) (.held z) = .held ((g s).getD z)
def upd (g : ByteArray → Option Value) (s : ByteArray) (v : Value) : ByteArray → Option Value := fun t => if t = s then some v else g t
theorem upd_same (g : ByteArray → Option Value) (s : ByteArray) (v : Value) : upd g s v s = some v := by simp [upd]
theorem upd_other (g : ByteArray → Option Value) {s t : ByteArray} (v : Value) (h : t ≠ s) : upd g s v t = g t := by simp [upd, h]

section
variable {w w' : World} {P : Program} {k t e : TypeId} {b N : Nat} {g : ByteArray → Option Value}
theorem Rm.made (w : World) (P : Program) (k : TypeId) : Rm (w.alloc (.map #[] 0)) P k w.heap.size 0 (fun _ => none) :=
  ⟨.map [], World.ownsMap_made w P k rawR, fun _ => ⟨rfl, fun _ => rfl⟩⟩
theorem Rm.lt (h : Rm w P k b N g) : b < w.heap.size := h.choose_spec.1.lt
theorem Rm.more (h : Rm w P k b N g) {M : Nat} (hm : N ≤ M) : Rm w P k b M g := by
  obtain ⟨D, h1, h2⟩ := h; exact ⟨D, h1.mono hm, h2⟩
theorem Rm.kept {row : Option Nat} (h : Rm w P k b N g) (hg : w.grownBy w' row) (hr : some b ≠ row) : Rm w' P k b N g := by
  obtain ⟨D, h1, h2⟩ := h; exact ⟨D, h1.kept hg hr, h2⟩
theorem Rm.below {B : Nat} (h : Rm w P k b N g) (hb : Below B w w') (hB : b < B) : Rm w' P k b N g := by
  obtain ⟨D, ⟨es, clock, h1, h2⟩, h3⟩ := h
  exact ⟨D, ⟨es, clock, (hb.block b hB).trans h1, h2⟩, h3⟩
theorem Rm.alloc (h : Rm w P k b N g) (o : Obj) : Rm (w.alloc o) P k b N g := h.kept (World.grownBy_alloc w o none) (by simp)
theorem key_str (hk : P.underlying k = some .string) {s : ByteArray} (hs : s.size ≤ maxLen) : keyOf P k (.string s) = some (.string s.data.toList) := by simp [keyOf, hk, mapKey]; exact hs
theorem Rm.look (h : Rm w P k b N g) (hk : P.underlying k = some .string) (ht : P.underlying t = some (.map k e)) {z : Value} (hz : (zeroValue e).run P w = .ok z w) {s : ByteArray} (hs : s.size ≤ maxLen) :
    (Instr.lookup t (.map (some b)) (.string s) false).run P w = .ok ((g s).getD z) w := by
  obtain ⟨D, h1, h2⟩ := h
  obtain ⟨v, ps, hrun, hv⟩ := h1.lookup (string_keyed hk) ht hz (zd := .held z) (zp := []) rfl (key_str hk hs)
  rw [(h2 s).2 z] at hv
  rw [hrun, rawR_inv hv]
theorem Rm.look_ok (h : Rm w P k b N g) (hk : P.underlying k = some .string) (ht : P.underlying t = some (.map k e)) {z : Value} (hz : (zeroValue e).run P w = .ok z w) {s : ByteArray} (hs : s.size ≤ maxLen) :
    (Instr.lookup t (.map (some b)) (.string s) true).run P w = .ok (.tuple #[(g s).getD z, .bool (g s).isSome]) w := by
  obtain ⟨D, h1, h2⟩ := h
  obtain ⟨v, ps, hrun, hv⟩ := h1.look_ok (string_keyed hk) ht hz (zd := .held z) (zp := []) rfl (key_str hk hs)
  rw [(h2 s).2 z] at hv
  rw [hrun, rawR_inv hv, (h2 s).1]
theorem lit_ne {s r : ByteArray} (h : r ≠ s) : (Lit.string r.data.toList) ≠ .string s.data.toList := fun e => h (data_inj (by injection e))
theorem Rm.put (h : Rm w P k b N g) (hk : P.underlying k = some .string) (ht : P.underlying t = some (.map k e)) (hn : N < maxLen) {s : ByteArray} (hs : s.size ≤ maxLen) (v : Value) :
    ∃ w', (Instr.mapUpdate t (.map (some b)) (.string s) v).run P w = .ok () w' ∧ Rm w' P k b (N + 1) (upd g s v) ∧ w.grownBy w' (some b) := by
  obtain ⟨D, h1, h2⟩ := h
  obtain ⟨w', hrun, ho, hg⟩ := h1.update (string_keyed hk) ht hn (key_str hk hs) (d := .held v) (ps := []) rfl
  refine ⟨w', hrun, ⟨_, ho, fun r => ?_⟩, hg⟩
  have hkl := (string_keyed hk).key (key_str hk hs)
  by_cases hr : r = s
  · subst hr
    rw [upd_same, has_put_same h1.isMap hkl]
    exact ⟨rfl, fun z => atKey_put_same h1.isMap hkl _ _⟩
  · rw [upd_other _ _ hr, has_put_other (lit_ne hr)]
    exact ⟨(h2 r).1, fun z => (atKey_put_other (lit_ne hr) _ _).trans ((h2 r).2 z)⟩
theorem wpList_put_rm {ops : Array Oper} {rest : List Oper} {o : Oper} {a : Act} {Q : Exit → Act → World → Prop} (hgd : o.guard = none) (m x y : Operand) (t : TypeId) (hop : o.op = Op.mapUpdate t m x y)
    (k e : TypeId) (hk : P.underlying k = some .string) (ht : P.underlying t = some (.map k e)) (b N : Nat) (g : ByteArray → Option Value) (hm : a.eval m = .map (some b)) (h : Rm w P k b N g) (hn : N < maxLen)
    (s : ByteArray) (hs : s.size ≤ maxLen) (v : Value) (hx : a.eval x = .string s) (hy : a.eval y = v)
    (hK : ∀ w', Rm w' P k b (N + 1) (upd g s v) → w.grownBy w' (some b) → wpList P ops Q rest (a.put o.dst undef) w') : wpList P ops Q (o :: rest) a w := by
  refine wpList_plain hgd fun K' hK' => ?_
  obtain ⟨w', hrun, r1, r2⟩ := h.put hk ht hn hs v
  unfold Oper.wp
  simp [execOp, hop, hm, hx, hy, hrun, Result.andThen]
  exact hK' _ _ (hK w' r1 r2)

/-! ### ranging -/
variable {r cnt : Nat} {left : ByteArray → Bool}
end
end Go.Proofs.YtmdhlkkekidknaaGreatDoor

namespace Go.Proofs.YtmdhlkkekidknaaGreatDoor
open Go.RowKit

def SeqT {α : Type} (F : Fence) (n : Nat) (P : Program) (g : Nat) (lb : Array Value) (encs : α → Array Value) (Kp St : World → World → Prop) (Pf S Sp : List α → Prop) (hz : Nat) (w : World) : Prop :=
  ∀ (l : Nat) (J Jx : List α → World → Prop) (W : World), Below w.heap.size w W → W.heap.size = hz → (∀ pre A B, J pre A → St A B → J pre B) →
    (∀ pre x W1, Pf (pre ++ [x]) → J pre W1 → YieldAt F (n - 1) P l (encs x) W1 fun e W' =>
      (e = .returned (.bool true) ∧ J (pre ++ [x]) W' ∧ Kp W1 W') ∨ (e = .returned (.bool false) ∧ Jx (pre ++ [x]) W')) →
    J [] W →
    CallsIn F n P g (#[.func (.yield l) #[] #[]] ++ lb) W fun e W' => (∃ v, e = .returned v) ∧ ((∃ xs, S xs ∧ J xs W') ∨ (∃ pre, Sp pre ∧ Jx pre W'))

def Rec2 (D : Nat) (W W' : World) : Prop := W'.heap[D]? = W.heap[D]? ∧ W'.heap[D + 1]? = W.heap[D + 1]?
theorem Rec2.refl (D : Nat) (W : World) : Rec2 D W W := ⟨rfl, rfl⟩
def ownPostT {α : Type} (D : Nat) (Kp : World → World → Prop) (I : List α → World → Prop) (Ix : Code → List α → World → Prop) (xs : List α) (W : World) : Exit → Act → World → Prop
  | .normal, _, W' => Rec2 D W W' ∧ Kp W W' ∧ I xs W'
  | .ret, _, W' => Rec2 D W W' ∧ Ix .ret xs W'
  | .exit id, _, W' => Rec2 D W W' ∧ Ix (.exit id) xs W'
  | .goto t, _, W' => Rec2 D W W' ∧ Ix (.goto t) xs W'
  | .panic _, _, _ => False
  | .outgrown, _, _ => False
variable {F : Fence} {n : Nat} {P : Program}

end Go.Proofs.YtmdhlkkekidknaaGreatDoor

namespace Go.Proofs.YtmdhlkkekidknaaGreatDoor
open Go.RowKit Go.Maps

section
variable {F : Fence} {n' : Nat} {P : Program} {w : World}
theorem wpListIn_append_sl {base size : Nat} {ops : Array Oper} {rest : List Oper} {o : Oper} {a : Act} {Q : Exit → Act → World → Prop} (hgd : o.guard = none) (s x : Operand) (t : TypeId)
    (ho : o.op = .call { callee := .builtin .append, args := #[s, x], argTypes := #[t, t] })
    (e : TypeId) (i : TypeInfo) (z : Value) (bytes : Nat) (ht : P.underlying t = some (.slice e)) (hi : P.info? e = some i) (hz : i.zero = some z)
    (hsize : i.size = size) (hby : i.bytes = bytes) (hzs : z.cells.size = size) (hsz : 0 < size)
    (v : Value) (n : Nat) (xs : List Value) (hs : a.eval s = v) (hown : w.ownsRow base e size v n xs)
    (B : Nat) (A : Option Addr) (m c : Nat) (ys : List Value) (hx : a.eval x = .slice A m c) (hsl : Sl w B size A m ys) (h1 : ∀ u ∈ ys, u.oneCell' = true)
    (h63 : n + m ≤ maxLen) (hbytes : (n + m) * bytes ≤ 140737488355328) (hbase : base ≤ w.heap.size)
    (h : ∀ A' c' w', w'.ownsRow base e size (.slice A' (n + m) c') (n + m) (xs ++ ys) → w.grownBy w' v.ownBlock → n + m ≤ c' → c' ≤ maxLen → wpListIn F n' P ops Q rest (a.put o.dst (.slice A' (n + m) c')) w') : wpListIn F n' P ops Q (o :: rest) a w := by
  refine wpListIn_plain hgd fun K hK => ?_
  obtain ⟨A', c', w', hr, ho', hg, hc1, hc2⟩ := run_append_sl (P := P) t o.type i z bytes ht hi hz hsize hby hzs hsz hown (c := c) hsl h1 h63 hbytes hbase
  unfold Oper.wpIn
  refine ⟨?_, ?_⟩
  · simp [Oper.about, ho, resolve, Target.leads, Sem.run_pure]
  · rw [Oper.semAt_plain F _ _ (by rw [ho]; intro c hc'; cases hc')]
    simp [execOp, ho, resolve, invoke, builtin, hs, hx, hr, Result.andThen]
    exact hK _ _ (h A' c' w' ho' hg hc1 hc2)
end

def isRow (e : TypeId) : Option Obj → Prop
  | some (.cells _ t _) => t = e
  | _ => False
theorem Rm.block {w w' : World} {P : Program} {k : TypeId} {b N : Nat} {g : ByteArray → Option Value} (h : Rm w P k b N g) (hb : w'.heap[b]? = w.heap[b]?) : Rm w' P k b N g := by
  obtain ⟨D, ⟨es, clock, h1, h2⟩, h3⟩ := h
  exact ⟨D, ⟨es, clock, hb.trans h1, h2⟩, h3⟩
end Go.Proofs.YtmdhlkkekidknaaGreatDoor

namespace Go.Proofs.YtmdhlkkekidknaaGreatDoor

section
variable {α : Type} {nx : α → List α} {s : α}
end
end Go.Proofs.YtmdhlkkekidknaaGreatDoor

namespace Go.Proofs.YtmdhlkkekidknaaGreatDoor
open Go.RowKit

section
variable {F : Fence} {n : Nat} {P : Program} {b : Frame} {a : Act} {k : List Item} {cs : List Frame} {w : World} {Q : Exit → Act → World → Prop}
end
end Go.Proofs.YtmdhlkkekidknaaGreatDoor

namespace Go.Proofs.YtmdhlkkekidknaaGreatDoor
open Go.RowKit Go.Maps



end Go.Proofs.YtmdhlkkekidknaaGreatDoor

namespace Go.Proofs.YtmdhlkkekidknaaGreatDoor
open Go.RowKit Go.Maps
attribute [local go_sem] Oper.semAt_some

theorem str_ne {a b : ByteArray} (h : a ≠ b) : (a.toList == b.toList) = false := by
  rw [beq_eq_false_iff_ne]
  intro e
  rw [ByteArray.toList_eq, ByteArray.toList_eq] at e
  exact h (data_inj e)
end Go.Proofs.YtmdhlkkekidknaaGreatDoor

namespace Go.Proofs.YtmdhlkkekidknaaGreatDoor
open Go.RowKit Go.Maps
attribute [local go_sem] Oper.semAt_some

theorem one_grown {w w' : World} {b : Nat} {v : Value} {t : TypeId} {row : Option Nat} (h : w.heap[b]? = some (.cells #[v] t (0, 0))) (hg : w.grownBy w' row) (hr : some b ≠ row) : w'.heap[b]? = some (.cells #[v] t (0, 0)) :=
  (hg.block b (Array.getElem?_eq_some_iff.1 h).1 hr).trans h
end Go.Proofs.YtmdhlkkekidknaaGreatDoor

namespace Go.Proofs.YtmdhlkkekidknaaGreatDoor
open Go.RowKit Go.Maps

theorem infoStr : (Tryz.prog.info? 9).map (fun i => (i.zero, i.size, i.bytes)) = some (some (.string ⟨#[]⟩), 1, 16) := by kernel_rfl
abbrev Ix := Bool × ByteArray
end Go.Proofs.YtmdhlkkekidknaaGreatDoor

namespace Go.Proofs.YtmdhlkkekidknaaGreatDoor
open Go.RowKit Go.Maps

theorem new_cell (w : World) (t : TypeId) (x : ByteArray) : ∀ j u, [Value.string x][j]? = some u → (w.alloc (.cells #[.string x] t)).cell? (Addr.add ⟨w.heap.size, 0, none⟩ j) = some u := by
  intro j u h
  cases j with
  | zero =>
    have hk : Bk (w.alloc (.cells #[.string x] t)) w.heap.size t #[.string x] := Bk.new w _ _
    have := hk.cell 0
    simp at this h
    subst h
    simp [Addr.add]
  | succ j => simp at h

end Go.Proofs.YtmdhlkkekidknaaGreatDoor

namespace Go.Proofs.YtmdhlkkekidknaaGreatDoor
open Go.RowKit Go.Maps

end Go.Proofs.YtmdhlkkekidknaaGreatDoor

namespace Go.Proofs.YtmdhlkkekidknaaGreatDoor

section
variable {nx lu : ByteArray → List ByteArray} {s : ByteArray} {pre : List (ByteArray × Nat)}
end
end Go.Proofs.YtmdhlkkekidknaaGreatDoor

namespace Go.Proofs.YtmdhlkkekidknaaGreatDoor
open Go.RowKit Go.Maps
attribute [local go_sem] Oper.semAt_some

theorem less_str (a b : ByteArray) : Op.bytesLess a.toList b.toList = less a b := by
  rw [ByteArray.toList_eq, ByteArray.toList_eq]; rfl
end Go.Proofs.YtmdhlkkekidknaaGreatDoor

namespace Go.Proofs.YtmdhlkkekidknaaGreatDoor
open Go.RowKit Go.Shelf

end Go.Proofs.YtmdhlkkekidknaaGreatDoor

namespace Go.Proofs.YtmdhlkkekidknaaGreatDoor
open Go.RowKit

def putAll (a : Act) : List (Tmp × Value) → Act
  | [] => a
  | p :: r => putAll (a.put (some p.1) p.2) r

theorem put_put (a : Act) (d : Tmp) (v u : Value) : (a.put (some d) v).put (some d) u = a.put (some d) u := by
  simp [Act.put]
theorem putAll_put (a : Act) (d : Tmp) (v : Value) : ∀ (l : List (Tmp × Value)), (∀ p ∈ l, p.1 ≠ d) → putAll (a.put (some d) v) l = (putAll a l).put (some d) v
  | [], _ => rfl
  | p :: l, h => by
    have hne : p.1 ≠ d := h p (by simp)
    show putAll ((a.put (some d) v).put (some p.1) p.2) l = (putAll (a.put (some p.1) p.2) l).put (some d) v
    rw [Act.put_comm a v p.2 (x := some d) (y := some p.1) (fun x hx e => by cases hx; cases e; exact hne rfl)]
    exact putAll_put _ d v l (fun q hq => h q (by simp [hq]))
theorem putAll_set (a : Act) : ∀ (ds : List Tmp) (vs : List Value) (i : Nat) (d : Tmp) (v : Value), ds.Nodup → ds.length = vs.length → ds[i]? = some d →
    putAll a (ds.zip (vs.set i v)) = (putAll a (ds.zip vs)).put (some d) v
  | [], _, _, _, _, _, _, h => by simp at h
  | d0 :: ds, [], _, _, _, _, hl, _ => by simp at hl
  | d0 :: ds, v0 :: vs, 0, d, v, hn, hl, h => by
    simp only [List.getElem?_cons_zero, Option.some.injEq] at h; subst h
    have hnd := List.nodup_cons.1 hn
    have hm : ∀ p ∈ ds.zip vs, p.1 ≠ d0 := fun p hp e => hnd.1 (by have := (List.of_mem_zip hp).1; rwa [e] at this)
    show putAll (a.put (some d0) v) (ds.zip vs) = (putAll (a.put (some d0) v0) (ds.zip vs)).put (some d0) v
    rw [putAll_put _ _ _ _ hm, putAll_put _ _ _ _ hm, put_put]
  | d0 :: ds, v0 :: vs, i + 1, d, v, hn, hl, h => by
    simp only [List.getElem?_cons_succ] at h
    show putAll (a.put (some d0) v0) (ds.zip (vs.set i v)) = (putAll (a.put (some d0) v0) (ds.zip vs)).put (some d) v
    exact putAll_set _ ds vs i d v (List.nodup_cons.1 hn).2 (by simpa using hl) h
theorem put_same (a : Act) (d : Tmp) : a.put (some d) (a.tmps.getD d undef) = a := by
  show ({ a with tmps := a.tmps.setIfInBounds d (a.tmps.getD d undef) } : Act) = a
  have : a.tmps.setIfInBounds d (a.tmps.getD d undef) = a.tmps := ?_
  · rw [this]
  apply Array.ext
  · simp
  · intro i h1 h2
    rw [Array.getElem_setIfInBounds (by simpa using h2)]
    split
    · rename_i e; subst e; simp [show d < a.tmps.size by simpa using h2]
    · rfl
theorem putAll_same (a : Act) : ∀ (ds : List Tmp), putAll a (ds.zip (ds.map fun d => a.tmps.getD d undef)) = a
  | [] => rfl
  | d :: ds => by
    show putAll (a.put (some d) (a.tmps.getD d undef)) _ = a
    rw [put_same]; exact putAll_same a ds

variable {P : Program} {Q : Exit → Act → World → Prop}

def Gives (P : Program) (o : Oper) (a : Act) (w : World) (Ψ : Value → World → Prop) : Prop :=
  ∀ (K : Act → World → Prop) (Q : Exit → Act → World → Prop), (∀ v w', Ψ v w' → K (a.put o.dst v) w') → o.wp P a w K Q

theorem gives_value {o : Oper} {a : Act} {w w' : World} {v : Value} {Ψ : Value → World → Prop} (hr : (execOp a.eval o).run P w = .ok (.value v) w') (h : Ψ v w') : Gives P o a w Ψ := fun K Q hK => by
  unfold Oper.wp; rw [hr]; exact hK v w' h
theorem gives_call {o : Oper} {a : Act} {w : World} {f : FuncId} {args : Array Value} {Ψ : Value → World → Prop} (hr : (execOp a.eval o).run P w = .ok (.enter f args) w)
    (h : Calls P f args w fun e w' => ∃ v, e = .returned v ∧ Ψ v w') : Gives P o a w Ψ := fun K Q hK => by
  unfold Oper.wp; rw [hr]
  exact h.mono fun e w' ⟨v, he, hv⟩ => by subst he; exact hK v w' hv

theorem gives_append {o : Oper} {a : Act} {w w' : World} {r v u : Value} {Ψ : Value → World → Prop} (s x : Operand) (t : TypeId) (ho : o.op = .call { callee := .builtin .append, args := #[s, x], argTypes := #[t, t] })
    (hs : a.eval s = v) (hx : a.eval x = u) (hr : (Builtin.append_ #[t, t] o.type #[v, u]).run P w = .ok r w') (h : Ψ r w') : Gives P o a w Ψ :=
  gives_value (v := r) (w' := w') (by simp [execOp, ho, resolve, invoke, builtin, hs, hx, hr, Result.andThen]) h

def dstsOf (l : List Oper) (n : Nat) : List Tmp := (l.take n).map fun o => o.dst.getD 0
def fullL (l : List Oper) (n : Nat) : Array Bool := ((List.range l.length).map fun i => decide (i < n)).toArray
def stableB (l : List Oper) (n : Nat) : Bool :=
  decide (n < l.length) && Region.sinkB .any l.toArray n && Region.chainB .any l.toArray n && Region.seqB .any l.toArray (l.length - n) n (fullL l n) &&
  (l.take n).all (fun o => o.dst.isSome && o.guard.isNone) && decide (dstsOf l n).Nodup && (List.range n).all (fun i => match l[i]? with | some o => o.after.all (fun e => decide (e.on < i)) | none => false)

theorem count_set_lt {l : List Bool} {i : Nat} (h : l[i]? = some false) : (l.set i true).count false + 1 = l.count false := by
  induction l generalizing i with
  | nil => simp at h
  | cons b l ih =>
    cases i with
    | zero => simp only [List.getElem?_cons_zero, Option.some.injEq] at h; subst h; simp
    | succ i =>
      simp only [List.getElem?_cons_succ] at h
      have := ih h
      cases b <;> simp [List.set_cons_succ] <;> omega

set_option maxHeartbeats 400000 in
theorem wp_region_stable {id : Nat} {l : List Oper} {a0 : Act} {w0 : World} (n : Nat) (hm : P.follows .mixedOrders = true) (hB : stableB l n = true)
    (R : World → Prop) (E : World → World → Prop) (Φ : Nat → Value → World → Prop) (hR : ∀ w w', R w → E w w' → R w') (hΦ : ∀ i v w w', Φ i v w → E w w' → Φ i v w')
    (h0 : R { w0 with drawn := w0.drawn + 1 })
    (hstep : ∀ (i : Nat) (o : Oper) (vs : List Value) (w : World), i < n → l[i]? = some o → vs.length = n → R w → (∀ e ∈ o.after, Region.binds .any e = true → ∀ v, vs[e.on]? = some v → Φ e.on v w) →
      Gives P o (putAll a0 ((dstsOf l n).zip vs)) w fun v w' => E w w' ∧ Φ i v w')
    (htail : ∀ (vs : List Value) (w : World), vs.length = n → R w → (∀ i v, vs[i]? = some v → Φ i v w) → wpList P l.toArray Q (l.drop n) (putAll a0 ((dstsOf l n).zip vs)) w) :
    (Code.region id l.toArray true).wp P Q a0 w0 := by
  simp only [stableB, Bool.and_eq_true, decide_eq_true_eq, List.all_eq_true] at hB
  obtain ⟨⟨⟨⟨⟨⟨hn, hs⟩, hc⟩, hseq⟩, hdst⟩, hnd⟩, hback⟩ := hB
  have hdl : (dstsOf l n).length = n := by simp [dstsOf]; omega
  refine wp_region_any hm ?_
  -- the state: which operations have been carried out, what the temporaries hold
  have main : ∀ (f : Nat) (listed : Array Bool) (vs : List Value) (w : World), HeadInv .any l.toArray n listed → vs.length = n → R w →
      (∀ i v, i < n → listed.getD i false = true → vs[i]? = some v → Φ i v w) → (listed.toList.take n).count false = f →
      wpAny P .any l.toArray Q (f + (l.length - n)) listed (putAll a0 ((dstsOf l n).zip vs)) w := by
    intro f
    induction f with
    | zero =>
      intro listed vs w inv hv hw hphi hcnt
      have hall : ∀ i, i < n → listed.getD i false = true := by
        intro i hi
        have hsz : i < listed.size := by rw [inv.size]; simp; omega
        have hmem : listed.toList[i]? = some listed[i] := by simp [hsz]
        have hne : listed[i] ≠ false := by
          intro e
          have hm2 : false ∈ listed.toList.take n := by
            rw [List.mem_take_iff_getElem]
            exact ⟨i, by simp; omega, by simpa using e⟩
          have := List.count_pos_iff.2 hm2
          omega
        simp [hsz]; simpa using hne
      have hfull : listed = fullL l n := by
        apply Array.ext
        · rw [inv.size]; simp [fullL]
        · intro i h1 h2
          have hil : i < l.length := by rw [inv.size] at h1; simpa using h1
          simp only [fullL, List.getElem_toArray, List.getElem_map, List.getElem_range]
          by_cases hi : i < n
          · have := hall i hi; simp [h1] at this; simp [this, hi]
          · have := inv.tail i (by omega) (by simpa using hil); simp [h1] at this; simp [this, hi]
      subst hfull
      have hw' := htail vs w hv hw (fun i v hi => hphi i v (by have := (List.getElem?_eq_some_iff.1 hi).1; omega) (hall i (by have := (List.getElem?_eq_some_iff.1 hi).1; omega)) hi)
      have := wpAny_of_seq (md := .any) (Q' := Q) (l.drop n) n (fullL l n) _ w (fun j => by simp [List.getElem?_drop]) (by rw [List.length_drop]; exact hseq) hw'
      rw [List.length_drop] at this
      simpa using this
    | succ f ih =>
      intro listed vs w inv hv hw hphi hcnt
      have hun : ∃ i, i < n ∧ listed.getD i true = false := by
        have : 0 < (listed.toList.take n).count false := by omega
        have hm2 := List.count_pos_iff.1 this
        rw [List.mem_take_iff_getElem] at hm2
        obtain ⟨i, hi, hv2⟩ := hm2
        refine ⟨i, by simp at hi; omega, ?_⟩
        have hsz : i < listed.size := by simp at hi; omega
        rw [Array.getD_eq_getD_getElem?, Array.getElem?_eq_getElem hsz]; simpa using hv2
      rw [show f + 1 + (l.length - n) = (f + (l.length - n)) + 1 by omega]
      obtain ⟨i0, hi0, hu0⟩ := hun
      have hready_lt : ∀ i ∈ Region.ready .any l.toArray listed, i < n := by
        intro i hi
        rcases Nat.lt_or_ge i n with h | h
        · exact h
        · exact absurd hi (tail_waits hs hc (by simpa using hn) inv _ i0 rfl hi0 hu0 i h)
      have hne : Region.ready .any l.toArray listed ≠ [] := by
        -- the first operation that is not yet carried out and whose own conditions are all met: by the least such index
        intro hnil
        obtain ⟨m, hm1, hm2⟩ : ∃ m, (m < n ∧ listed.getD m true = false) ∧ ∀ k, k < m → ¬ (k < n ∧ listed.getD k true = false) := by
          have : ∀ m, (m < n ∧ listed.getD m true = false) → ∃ m, (m < n ∧ listed.getD m true = false) ∧ ∀ k, k < m → ¬ (k < n ∧ listed.getD k true = false) := by
            intro m
            induction m using Nat.strongRecOn with
            | _ m ihm =>
              intro h
              by_cases hex : ∃ k, k < m ∧ (k < n ∧ listed.getD k true = false)
              · obtain ⟨k, hk, hk2⟩ := hex; exact ihm k hk hk2
              · exact ⟨m, h, fun k hk hk2 => hex ⟨k, hk, hk2⟩⟩
          exact this i0 ⟨hi0, hu0⟩
        have hml : m < l.length := by omega
        have hmo : l[m]? = some l[m] := List.getElem?_eq_getElem hml
        have hb1 := hback m (List.mem_range.2 hm1.1)
        rw [hmo] at hb1
        simp only at hb1
        have hmr : m ∈ Region.ready .any l.toArray listed := by
          refine mem_ready.2 ⟨hm1.2, l[m], by simp, fun e he _ => ?_⟩
          have hlt : e.on < m := by
            have := (Array.all_eq_true_iff_forall_mem.1 hb1) e he
            simpa using this
          have hnot := hm2 e.on hlt
          cases hx : listed.getD e.on true with
          | true =>
            have hsz : e.on < listed.size := by rw [inv.size]; simp; omega
            simp [hsz] at hx ⊢; exact hx
          | false => exact absurd ⟨by omega, hx⟩ hnot
        rw [hnil] at hmr; cases hmr
      refine ⟨fun h => absurd h hne, fun i hi => ?_⟩
      have hin := hready_lt i hi
      obtain ⟨hlf, o, ho, hdeps⟩ := mem_ready.1 hi
      have ho' : l[i]? = some o := by simpa using ho
      have hmem : o ∈ l.take n := List.mem_take_iff_getElem.2 ⟨i, (by have := (List.getElem?_eq_some_iff.1 ho').1; omega), (List.getElem?_eq_some_iff.1 ho').2⟩
      have hdo := hdst o hmem
      obtain ⟨d, hd⟩ := Option.isSome_iff_exists.1 hdo.1
      have hg : o.guard = none := by simpa using hdo.2
      have hdi : (dstsOf l n)[i]? = some d := by
        simp [dstsOf, hin, ho', hd]
      have hgive := hstep i o vs w hin ho' hv hw (fun e he hb v hve => by
        have hle := hdeps e he hb
        have hen : e.on < n := by have := (List.getElem?_eq_some_iff.1 hve).1; omega
        exact hphi e.on v hen hle hve)
      unfold wpOp
      simp only [ho, Region.wanted, hg, if_true]
      refine .inl (hgive _ _ fun v w' hvw => ?_)
      rw [hd, ← putAll_set a0 (dstsOf l n) vs i d v hnd (by rw [hdl, hv]) hdi]
      have hsz : i < listed.size := by rw [inv.size]; simp; omega
      have hli : listed.toList[i]? = some false := by
        simp [hsz] at hlf ⊢; exact hlf
      refine ih (listed.setIfInBounds i true) (vs.set i v) w' (inv.set hi hin) (by simpa using hv) (hR w w' hw hvw.1) ?_ ?_
      · intro j u hj hlj huj
        by_cases e : j = i
        · subst e
          have hjl : j < vs.length := by omega
          rw [List.getElem?_set_self hjl] at huj
          cases huj; exact hvw.2
        · rw [List.getElem?_set_ne (fun h => e h.symm)] at huj
          rw [getD_set_ne false (fun h => e h.symm)] at hlj
          exact hΦ j u w w' (hphi j u hj hlj huj) hvw.1
      · have : (listed.setIfInBounds i true).toList.take n = (listed.toList.take n).set i true := by
          rw [Array.toList_setIfInBounds, List.take_set]
        rw [this]
        have h2 := count_set_lt (l := listed.toList.take n) (i := i) (by rw [List.getElem?_take, if_pos hin]; exact hli)
        omega
  have inv0 : HeadInv .any l.toArray n (Array.replicate l.toArray.size false) :=
    ⟨by simp, fun j oj _ hl => (by rw [getD_replicate_false] at hl; cases hl), fun t _ ht => getD_in (by simpa using ht) (getD_replicate_false _ _)⟩
  have := main n (Array.replicate l.toArray.size false) ((dstsOf l n).map fun d => a0.tmps.getD d undef) _ inv0 (by simpa using hdl) h0
    (fun i v _ hl _ => by rw [getD_replicate_false] at hl; cases hl) (by simp; omega)
  rw [putAll_same, show n + (l.length - n) = l.toArray.size by simp; omega] at this
  exact this
theorem wp_region_stableD {id : Nat} {l : List Oper} {a0 : Act} {w0 : World} (n : Nat) (ds : List Tmp) (hm : P.follows .mixedOrders = true) (hB : stableB l n = true) (hds : dstsOf l n = ds)
    (R : World → Prop) (E : World → World → Prop) (Φ : Nat → Value → World → Prop) (hR : ∀ w w', R w → E w w' → R w') (hΦ : ∀ i v w w', Φ i v w → E w w' → Φ i v w')
    (h0 : R w0.drew)
    (hstep : ∀ (i : Nat) (o : Oper) (vs : List Value) (w : World), i < n → l[i]? = some o → vs.length = n → R w → (∀ e ∈ o.after, Region.binds .any e = true → ∀ v, vs[e.on]? = some v → Φ e.on v w) →
      Gives P o (putAll a0 (ds.zip vs)) w fun v w' => E w w' ∧ Φ i v w')
    (htail : ∀ (vs : List Value) (w : World), vs.length = n → R w → (∀ i v, vs[i]? = some v → Φ i v w) → wpList P l.toArray Q (l.drop n) (putAll a0 (ds.zip vs)) w) :
    (Code.region id l.toArray true).wp P Q a0 w0 := by
  subst hds
  exact wp_region_stable n hm hB R E Φ hR hΦ h0 hstep htail
end Go.Proofs.YtmdhlkkekidknaaGreatDoor

namespace Go.Proofs.YtmdhlkkekidknaaGreatDoor
open Go.RowKit
variable {P : Program} {Q : Exit → Act → World → Prop}

def GivesG (P : Program) (ops : Array Oper) (o : Oper) (a : Act) (w : World) (Ψ : Value → World → Prop) : Prop :=
  (Region.wanted o (yielded ops a.tmps) = true ∧ Gives P o a w Ψ) ∨ (Region.wanted o (yielded ops a.tmps) = false ∧ Ψ undef w)
def stableGB (l : List Oper) (n : Nat) : Bool :=
  decide (n < l.length) && Region.sinkB .any l.toArray n && Region.chainB .any l.toArray n && Region.seqB .any l.toArray (l.length - n) n (fullL l n) &&
  (l.take n).all (fun o => o.dst.isSome) && decide (dstsOf l n).Nodup && (List.range n).all (fun i => match l[i]? with | some o => o.after.all (fun e => decide (e.on < i)) | none => false)

set_option maxHeartbeats 400000 in
theorem wp_region_stableG {id : Nat} {l : List Oper} {a0 : Act} {w0 : World} (n : Nat) (hm : P.follows .mixedOrders = true) (hB : stableGB l n = true)
    (R : World → Prop) (E : World → World → Prop) (Φ : Nat → Value → World → Prop) (hR : ∀ w w', R w → E w w' → R w') (hΦ : ∀ i v w w', Φ i v w → E w w' → Φ i v w')
    (h0 : R { w0 with drawn := w0.drawn + 1 })
    (hstep : ∀ (i : Nat) (o : Oper) (vs : List Value) (w : World), i < n → l[i]? = some o → vs.length = n → R w → (∀ e ∈ o.after, Region.binds .any e = true → ∀ v, vs[e.on]? = some v → Φ e.on v w) →
      GivesG P l.toArray o (putAll a0 ((dstsOf l n).zip vs)) w fun v w' => E w w' ∧ Φ i v w')
    (htail : ∀ (vs : List Value) (w : World), vs.length = n → R w → (∀ i v, vs[i]? = some v → Φ i v w) → wpList P l.toArray Q (l.drop n) (putAll a0 ((dstsOf l n).zip vs)) w) :
    (Code.region id l.toArray true).wp P Q a0 w0 := by
  simp only [stableGB, Bool.and_eq_true, decide_eq_true_eq, List.all_eq_true] at hB
  obtain ⟨⟨⟨⟨⟨⟨hn, hs⟩, hc⟩, hseq⟩, hdst⟩, hnd⟩, hback⟩ := hB
  have hdl : (dstsOf l n).length = n := by simp [dstsOf]; omega
  refine wp_region_any hm ?_
  -- the state: which operations have been carried out, what the temporaries hold
  have main : ∀ (f : Nat) (listed : Array Bool) (vs : List Value) (w : World), HeadInv .any l.toArray n listed → vs.length = n → R w →
      (∀ i v, i < n → listed.getD i false = true → vs[i]? = some v → Φ i v w) → (listed.toList.take n).count false = f →
      wpAny P .any l.toArray Q (f + (l.length - n)) listed (putAll a0 ((dstsOf l n).zip vs)) w := by
    intro f
    induction f with
    | zero =>
      intro listed vs w inv hv hw hphi hcnt
      have hall : ∀ i, i < n → listed.getD i false = true := by
        intro i hi
        have hsz : i < listed.size := by rw [inv.size]; simp; omega
        have hmem : listed.toList[i]? = some listed[i] := by simp [hsz]
        have hne : listed[i] ≠ false := by
          intro e
          have hm2 : false ∈ listed.toList.take n := by
            rw [List.mem_take_iff_getElem]
            exact ⟨i, by simp; omega, by simpa using e⟩
          have := List.count_pos_iff.2 hm2
          omega
        simp [hsz]; simpa using hne
      have hfull : listed = fullL l n := by
        apply Array.ext
        · rw [inv.size]; simp [fullL]
        · intro i h1 h2
          have hil : i < l.length := by rw [inv.size] at h1; simpa using h1
          simp only [fullL, List.getElem_toArray, List.getElem_map, List.getElem_range]
          by_cases hi : i < n
          · have := hall i hi; simp [h1] at this; simp [this, hi]
          · have := inv.tail i (by omega) (by simpa using hil); simp [h1] at this; simp [this, hi]
      subst hfull
      have hw' := htail vs w hv hw (fun i v hi => hphi i v (by have := (List.getElem?_eq_some_iff.1 hi).1; omega) (hall i (by have := (List.getElem?_eq_some_iff.1 hi).1; omega)) hi)
      have := wpAny_of_seq (md := .any) (Q' := Q) (l.drop n) n (fullL l n) _ w (fun j => by simp [List.getElem?_drop]) (by rw [List.length_drop]; exact hseq) hw'
      rw [List.length_drop] at this
      simpa using this
    | succ f ih =>
      intro listed vs w inv hv hw hphi hcnt
      have hun : ∃ i, i < n ∧ listed.getD i true = false := by
        have : 0 < (listed.toList.take n).count false := by omega
        have hm2 := List.count_pos_iff.1 this
        rw [List.mem_take_iff_getElem] at hm2
        obtain ⟨i, hi, hv2⟩ := hm2
        refine ⟨i, by simp at hi; omega, ?_⟩
        have hsz : i < listed.size := by simp at hi; omega
        rw [Array.getD_eq_getD_getElem?, Array.getElem?_eq_getElem hsz]; simpa using hv2
      rw [show f + 1 + (l.length - n) = (f + (l.length - n)) + 1 by omega]
      obtain ⟨i0, hi0, hu0⟩ := hun
      have hready_lt : ∀ i ∈ Region.ready .any l.toArray listed, i < n := by
        intro i hi
        rcases Nat.lt_or_ge i n with h | h
        · exact h
        · exact absurd hi (tail_waits hs hc (by simpa using hn) inv _ i0 rfl hi0 hu0 i h)
      have hne : Region.ready .any l.toArray listed ≠ [] := by
        -- the first operation that is not yet carried out and whose own conditions are all met: by the least such index
        intro hnil
        obtain ⟨m, hm1, hm2⟩ : ∃ m, (m < n ∧ listed.getD m true = false) ∧ ∀ k, k < m → ¬ (k < n ∧ listed.getD k true = false) := by
          have : ∀ m, (m < n ∧ listed.getD m true = false) → ∃ m, (m < n ∧ listed.getD m true = false) ∧ ∀ k, k < m → ¬ (k < n ∧ listed.getD k true = false) := by
            intro m
            induction m using Nat.strongRecOn with
            | _ m ihm =>
              intro h
              by_cases hex : ∃ k, k < m ∧ (k < n ∧ listed.getD k true = false)
              · obtain ⟨k, hk, hk2⟩ := hex; exact ihm k hk hk2
              · exact ⟨m, h, fun k hk hk2 => hex ⟨k, hk, hk2⟩⟩
          exact this i0 ⟨hi0, hu0⟩
        have hml : m < l.length := by omega
        have hmo : l[m]? = some l[m] := List.getElem?_eq_getElem hml
        have hb1 := hback m (List.mem_range.2 hm1.1)
        rw [hmo] at hb1
        simp only at hb1
        have hmr : m ∈ Region.ready .any l.toArray listed := by
          refine mem_ready.2 ⟨hm1.2, l[m], by simp, fun e he _ => ?_⟩
          have hlt : e.on < m := by
            have := (Array.all_eq_true_iff_forall_mem.1 hb1) e he
            simpa using this
          have hnot := hm2 e.on hlt
          cases hx : listed.getD e.on true with
          | true =>
            have hsz : e.on < listed.size := by rw [inv.size]; simp; omega
            simp [hsz] at hx ⊢; exact hx
          | false => exact absurd ⟨by omega, hx⟩ hnot
        rw [hnil] at hmr; cases hmr
      refine ⟨fun h => absurd h hne, fun i hi => ?_⟩
      have hin := hready_lt i hi
      obtain ⟨hlf, o, ho, hdeps⟩ := mem_ready.1 hi
      have ho' : l[i]? = some o := by simpa using ho
      have hmem : o ∈ l.take n := List.mem_take_iff_getElem.2 ⟨i, (by have := (List.getElem?_eq_some_iff.1 ho').1; omega), (List.getElem?_eq_some_iff.1 ho').2⟩
      have hdo := hdst o hmem
      obtain ⟨d, hd⟩ := Option.isSome_iff_exists.1 hdo
      have hdi : (dstsOf l n)[i]? = some d := by
        simp [dstsOf, hin, ho', hd]
      have hgive := hstep i o vs w hin ho' hv hw (fun e he hb v hve => by
        have hle := hdeps e he hb
        have hen : e.on < n := by have := (List.getElem?_eq_some_iff.1 hve).1; omega
        exact hphi e.on v hen hle hve)
      have hgo : ∀ v w', (E w w' ∧ Φ i v w') → wpAny P .any l.toArray Q (f + (l.length - n)) (listed.setIfInBounds i true) ((putAll a0 ((dstsOf l n).zip vs)).put o.dst v) w' := ?hgo
      case hgo =>
        intro v w' hvw
        rw [hd, ← putAll_set a0 (dstsOf l n) vs i d v hnd (by rw [hdl, hv]) hdi]
        have hsz : i < listed.size := by rw [inv.size]; simp; omega
        have hli : listed.toList[i]? = some false := by
          simp [hsz] at hlf ⊢; exact hlf
        refine ih (listed.setIfInBounds i true) (vs.set i v) w' (inv.set hi hin) (by simpa using hv) (hR w w' hw hvw.1) ?_ ?_
        · intro j u hj hlj huj
          by_cases e : j = i
          · subst e
            have hjl : j < vs.length := by omega
            rw [List.getElem?_set_self hjl] at huj
            cases huj; exact hvw.2
          · rw [List.getElem?_set_ne (fun h => e h.symm)] at huj
            rw [getD_set_ne false (fun h => e h.symm)] at hlj
            exact hΦ j u w w' (hphi j u hj hlj huj) hvw.1
        · have : (listed.setIfInBounds i true).toList.take n = (listed.toList.take n).set i true := by
            rw [Array.toList_setIfInBounds, List.take_set]
          rw [this]
          have h2 := count_set_lt (l := listed.toList.take n) (i := i) (by rw [List.getElem?_take, if_pos hin]; exact hli)
          omega
      unfold wpOp
      simp only [ho]
      rcases hgive with ⟨hw1, hw2⟩ | ⟨hw1, hw2⟩
      · rw [if_pos hw1]
        exact .inl (hw2 _ _ hgo)
      · rw [if_neg (by rw [hw1]; simp)]
        exact hgo undef w hw2
  have inv0 : HeadInv .any l.toArray n (Array.replicate l.toArray.size false) :=
    ⟨by simp, fun j oj _ hl => (by rw [getD_replicate_false] at hl; cases hl), fun t _ ht => getD_in (by simpa using ht) (getD_replicate_false _ _)⟩
  have := main n (Array.replicate l.toArray.size false) ((dstsOf l n).map fun d => a0.tmps.getD d undef) _ inv0 (by simpa using hdl) h0
    (fun i v _ hl _ => by rw [getD_replicate_false] at hl; cases hl) (by simp; omega)
  rw [putAll_same, show n + (l.length - n) = l.toArray.size by simp; omega] at this
  exact this
theorem wp_region_stableGD {id : Nat} {l : List Oper} {a0 : Act} {w0 : World} (n : Nat) (ds : List Tmp) (hm : P.follows .mixedOrders = true) (hB : stableGB l n = true) (hds : dstsOf l n = ds)
    (R : World → Prop) (E : World → World → Prop) (Φ : Nat → Value → World → Prop) (hR : ∀ w w', R w → E w w' → R w') (hΦ : ∀ i v w w', Φ i v w → E w w' → Φ i v w')
    (h0 : R w0.drew)
    (hstep : ∀ (i : Nat) (o : Oper) (vs : List Value) (w : World), i < n → l[i]? = some o → vs.length = n → R w → (∀ e ∈ o.after, Region.binds .any e = true → ∀ v, vs[e.on]? = some v → Φ e.on v w) →
      GivesG P l.toArray o (putAll a0 (ds.zip vs)) w fun v w' => E w w' ∧ Φ i v w')
    (htail : ∀ (vs : List Value) (w : World), vs.length = n → R w → (∀ i v, vs[i]? = some v → Φ i v w) → wpList P l.toArray Q (l.drop n) (putAll a0 (ds.zip vs)) w) :
    (Code.region id l.toArray true).wp P Q a0 w0 := by
  subst hds
  exact wp_region_stableG n hm hB R E Φ hR hΦ h0 hstep htail
def vPhi (vals : List Value) (i : Nat) (v : Value) (_ : World) : Prop := ∀ u, vals[i]? = some u → v = u
end Go.Proofs.YtmdhlkkekidknaaGreatDoor

namespace Go.Proofs.YtmdhlkkekidknaaGreatDoor
open Go.RowKit Go.Maps

theorem le_not_less {a b : ByteArray} {le : Bool} (h : (Op.bytesLess a.toList b.toList || a.toList == b.toList) = le) : less b a = !le := by
  rw [less_str, str_dec] at h
  subst h
  by_cases e : a = b
  · subst e; simp [lessB_irrefl]
  · simp only [e, decide_false, Bool.or_false]
    cases h1 : less a b with
    | true => rw [lessB_asymm h1]; rfl
    | false =>
      cases h2 : less b a with
      | true => rfl
      | false => exact absurd (lessB_conn h1 h2) e

end Go.Proofs.YtmdhlkkekidknaaGreatDoor

namespace Go.Proofs.YtmdhlkkekidknaaGreatDoor

end Go.Proofs.YtmdhlkkekidknaaGreatDoor

namespace Go.Proofs.YtmdhlkkekidknaaGreatDoor

end Go.Proofs.YtmdhlkkekidknaaGreatDoor

namespace Go.Proofs.YtmdhlkkekidknaaGreatDoor
open Go.RowKit Go.Maps

theorem wrap_sm {x : Int} (h1 : -9223372036854775808 ≤ x) (h2 : x < 9223372036854775808) : IntKind.i64.wrap x = x := by
  simp [IntKind.wrap, IntKind.bits, IntKind.signed]; omega
end Go.Proofs.YtmdhlkkekidknaaGreatDoor

namespace Go.Proofs.YtmdhlkkekidknaaGreatDoor
open Go.RowKit Go.Shelf

def CutR (s a b : ByteArray) (m : Bool) : Prop :=
  (slashL (bl s) < s.size ∧ a = s.extract 0 (slashL (bl s)) ∧ b = s.extract (slashL (bl s) + 1) s.size ∧ m = true) ∨ (slashL (bl s) = s.size ∧ a = s ∧ b = ⟨#[]⟩ ∧ m = false)
def CutEnd (s : ByteArray) (w : World) (e : Ending) (w' : World) : Prop := ∃ a b m, e = .returned (.tuple #[.string a, .string b, .bool m]) ∧ CutR s a b m ∧ Below w.heap.size w w'
theorem vch_no {c : Int} (h1 : ¬ (97 ≤ c ∧ c ≤ 122)) (h2 : ¬ (65 ≤ c ∧ c ≤ 90)) (h3 : ¬ (48 ≤ c ∧ c ≤ 57)) (h4 : c ≠ 46) (h5 : c ≠ 95) (h6 : c ≠ 45) : vchI c = false := by
  simp [vchI, h4, h5, h6]; omega
theorem vch_yes {c : Int} (h : (97 ≤ c ∧ c ≤ 122) ∨ (65 ≤ c ∧ c ≤ 90) ∨ (48 ≤ c ∧ c ≤ 57) ∨ c = 46 ∨ c = 95 ∨ c = 45) : vchI c = true := by
  simp [vchI]; omega
theorem beq_of {c d : Int} (h : c = d) : (c == d) = true := by rw [h]; simp
theorem beq_no {c d : Int} (h : c ≠ d) : (c == d) = false := by simp [h]
set_option maxRecDepth 100000 in
set_option maxHeartbeats 4000000 in
theorem vname7_any (s : ByteArray) (w : World) (hs : s.size ≤ maxLen) : Calls Tryz.prog 116 #[.string s] w fun e w' => e = .returned (.bool (nameB s)) ∧ w = w' := by
  unfold maxLen at hs
  have HL := Lib.hid (size_len s)
  go_enter Tryz.func116, Tryz.ntmps116
  have hno : ∀ b : Bool, nameB s = b → Hid (nameB s = b) := fun b h => h
  have hls : (bl s).length = s.size := (size_len s).symm
  by_cases c1 : (s.size : Int) < 1
  · have hv := hno false (by unfold nameB nameL; rw [decide_eq_false (by omega), Bool.false_and])
    clear hno hls
    go_wp2_with fail
    go_ret
    exact ⟨ret_bool hv.out.symm, rfl⟩
  by_cases c2 : (24 : Int) < (s.size : Int)
  · have hv := hno false (by unfold nameB nameL; rw [decide_eq_false (p := (bl s).length ≤ 24) (by omega)]; simp)
    clear hno hls
    go_wp2_with fail
    go_ret
    exact ⟨ret_bool hv.out.symm, rfl⟩
  have h3 : (s.toList == [46]) = decide (bl s = [46]) := by rw [ByteArray.toList_eq]; unfold bl; rw [Bool.eq_iff_iff]; simp
  have h4 : (s.toList == [46, 46]) = decide (bl s = [46, 46]) := by rw [ByteArray.toList_eq]; unfold bl; rw [Bool.eq_iff_iff]; simp
  by_cases c3 : bl s = [46]
  · have hv := hno false (by unfold nameB nameL; rw [decide_eq_true c3]; simp)
    rw [decide_eq_true c3] at h3
    clear hno hls h4 c3
    go_wp2_with fail
    go_ret
    exact ⟨ret_bool hv.out.symm, rfl⟩
  rw [decide_eq_false c3] at h3
  by_cases c4 : bl s = [46, 46]
  · have hv := hno false (by unfold nameB nameL; rw [decide_eq_true c4]; simp)
    rw [decide_eq_true c4] at h4
    clear hno hls c4 c3
    go_wp2_with fail
    go_ret
    exact ⟨ret_bool hv.out.symm, rfl⟩
  rw [decide_eq_false c4] at h4
  have HV : Hid (nameB s = (bl s).all vchB) := by
    show _ = _
    unfold nameB nameL
    rw [decide_eq_true (p := 1 ≤ (bl s).length) (by omega), decide_eq_true (p := (bl s).length ≤ 24) (by omega), decide_eq_false c3, decide_eq_false c4]
    simp
  have HLS := Lib.hid hls
  clear hno c3 c4 hls
  go_wp2_with fail
  go_loop [3] (fun i => ∃ k : Nat, k ≤ s.size ∧ i = .int .i64 k ∧ Hid (AllTo (bl s) k)) (fun i => s.size - (intOf i).toNat)
  case atStart => exact ⟨0, Nat.zero_le _, rfl, fun j c h => absurd h (by omega)⟩
  case round =>
    obtain ⟨k, hk, rfl, hA⟩ := hrel
    by_cases hlt : k < s.size
    · have hkz : (k : Int) < (s.size : Int) := by omega
      have HG := Lib.hid (get_data s k hlt)
      have HT : Hid (vchI (s[k].toNat : Int) = true → AllTo (bl s) (k + 1)) := fun hv => hA.out.step HG.out hv
      have HF : Hid (vchI (s[k].toNat : Int) = false → nameB s = false) := fun hv => by
        rw [HV.out, List.all_eq_false]
        exact ⟨s[k], List.mem_of_getElem? HG.out, by unfold vchB; rw [hv]; simp⟩
      clear hA h3 h4
      by_cases h46 : (s[k].toNat : Int) = 46
      · have t46 := beq_of h46
        go_wp2
        all_goals first
          | (go_ret; exact ⟨ret_bool (HF.out (vch_no (by omega) (by omega) (by omega) (by omega) (by omega) (by omega))).symm, rfl⟩)
          | (go_round
             case rel => exact ⟨k + 1, hlt, by go_num, HT.out (vch_yes (by first | omega | (simp at *; omega)))⟩
             case measure => simp [intOf]; omega)
      · have t46 := beq_no h46
        by_cases h95 : (s[k].toNat : Int) = 95
        · have t95 := beq_of h95
          go_wp2
          all_goals first
            | (go_ret; exact ⟨ret_bool (HF.out (vch_no (by omega) (by omega) (by omega) (by omega) (by omega) (by omega))).symm, rfl⟩)
            | (go_round
               case rel => exact ⟨k + 1, hlt, by go_num, HT.out (vch_yes (by first | omega | (simp at *; omega)))⟩
               case measure => simp [intOf]; omega)
        · have t95 := beq_no h95
          by_cases h45 : (s[k].toNat : Int) = 45
          · have t45 := beq_of h45
            go_wp2
            all_goals first
              | (go_ret; exact ⟨ret_bool (HF.out (vch_no (by omega) (by omega) (by omega) (by omega) (by omega) (by omega))).symm, rfl⟩)
              | (go_round
                 case rel => exact ⟨k + 1, hlt, by go_num, HT.out (vch_yes (by first | omega | (simp at *; omega)))⟩
                 case measure => simp [intOf]; omega)
          · have t45 := beq_no h45
            go_wp2
            all_goals first
              | (go_ret; refine ⟨ret_bool (HF.out (vch_no ?_ ?_ ?_ h46 h95 h45)).symm, rfl⟩ <;> omega)
              | (go_round
                 case rel => exact ⟨k + 1, hlt, by go_num, HT.out (vch_yes (by first | omega | (simp at *; omega)))⟩
                 case measure => simp [intOf]; omega)
    · have hkz : ¬ (k : Int) < (s.size : Int) := by omega
      have HT : Hid (nameB s = true) := by
        show _ = _
        rw [HV.out]
        refine AllTo.all ?_
        have := hA.out
        rwa [show k = (bl s).length from by rw [HLS.out]; omega] at this
      clear hA
      go_wp2_with fail
      go_ret
      exact ⟨ret_bool HT.out.symm, rfl⟩
end Go.Proofs.YtmdhlkkekidknaaGreatDoor
