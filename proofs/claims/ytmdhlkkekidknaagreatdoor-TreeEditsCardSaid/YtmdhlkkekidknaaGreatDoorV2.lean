/-
  Lemmas: digest.Of and cordwoodref02.Of: the digest of a string. Pools of objects: which are valid, what is found in them, what comes of an insertion; in plain Lean. Blocks that are left alone. Over any program. Maps with strings as keys and whatever values as elements (structs with slices, slices that are appended to): what a key has, as a plain function. Over any program. A digest's words, read byte by byte; in plain Lean. strings.Builder in a block of the call's own: what its writers do at this program (copyCheck 80, WriteByte 79, WriteString 71, String 70). codec.digits, writeInt, PutInt and PutText. codec.PutInt and PutText, cordwoodref01.put, PutInt and PutText. GetInt and GetText, what a number or a text at the beginning of a string is. The program's reader of objects: number, string, digest; on what was written. append onto a slice that is the call's own, or empty without capacity.
-/
import Derived.Laws.BitsLemmas
import Derived.Maps.RangeWalk
import Derived.Test.YtmdhlkkekidknaaGreatDoorProg
import Derived.IntWalk
import Derived.RangeFuncNested
import Derived.RangeFuncBound
import Derived.RangeFuncCalls
import Derived.RangeFuncLeaves
import Derived.RangeFuncFrom
import Derived.RangeFuncWrites
import Derived.Shelf.Abstract
import Derived.WalkKit
import Derived.OwnWalkIn
import Derived.TacticsInMore
import Derived.LoopNIn
import Derived.LoopIn
import Derived.Lib.Builder
import Derived.Lib.AppendStr
import Derived.Lib.UnsafeStr
import Derived.Laws.Externs
import Derived.Deep.QuietTactic
import Derived.BigQuiet
import Derived.RegionTactic
import Derived.BigRegion
import Derived.ArgAppend
import Derived.Test.YtmdhlkkekidknaaGreatDoorV1

namespace Go.Proofs.YtmdhlkkekidknaaGreatDoor
open Go.RowKit

@[go_sem] theorem guardDig : Tryz.prog.eqGuardType Tryz.prog.depth 30 = false := by kernel_rfl
theorem eqDig0 (dd : Nat) (a b c d : Int) (w : World) : (Op.equalIn (dd + 2) 30 (.agg #[.int .u64 a, .int .u64 b]) (.agg #[.int .u64 c, .int .u64 d])).run Tryz.prog w = .ok (a == c && b == d) w := by
  have u3 := Tryz.underlying28
  have a3 := Tryz.isAgg28
  have z3 := Tryz.sizeOf28
  rw [Op.equalIn]
  simp only [Sem.run_bind, run_underlying Tryz.underlying30, Result.andThen_ok]
  simp only [Std.Legacy.Range.forIn_eq_forIn_range', Std.Legacy.Range.size, Nat.sub_zero, Nat.add_sub_cancel, Nat.div_one, List.range'_succ, List.range'_zero, List.forIn_cons, List.forIn_nil]
  go_simp
  by_cases h1 : a = c <;> by_cases h2 : b = d <;> simp [h1, h2]
@[go_sem high] theorem eqDig (a b c d : Int) (w : World) : (Op.equalIn 10000 30 (.agg #[.int .u64 a, .int .u64 b]) (.agg #[.int .u64 c, .int .u64 d])).run Tryz.prog w = .ok (a == c && b == d) w := eqDig0 9998 a b c d w

def dg1 (h b : Int) : Int := IntKind.u64.wrap (bits .xor .u64 h b * 1099511628211)
def dg2 (h b : Int) : Int := bits .xor .u64 (IntKind.u64.wrap (h * 1099511628211)) b
def dgF (g : Int → Int → Int) (l : Bytes) : Int := l.foldl (fun h b => g h (IntKind.u64.wrap (b.toNat : Int))) 14695981039346656037
def ofB (l : Bytes) : Dig := if dgF dg1 l = 0 ∧ dgF dg2 l = 0 then (0, 1) else (dgF dg1 l, dgF dg2 l)
theorem dgF_snoc (g : Int → Int → Int) {l : Bytes} {k : Nat} (hk : k < l.length) : dgF g (l.take (k + 1)) = g (dgF g (l.take k)) (IntKind.u64.wrap (l[k].toNat : Int)) := by
  unfold dgF; rw [take_snoc (List.getElem?_eq_getElem hk), List.foldl_append]; rfl

set_option maxHeartbeats 1000000 in
theorem of1_any (h b : Int) (w : World) : Calls Tryz.prog 163 #[.int .u64 h, .int .u64 b] w fun e w' => e = .returned (.int .u64 (dg1 h b)) ∧ w = w' := by
  go_enter Tryz.func163, Tryz.ntmps163
  go_wp2
  go_ret
  exact ⟨rfl, rfl⟩
set_option maxHeartbeats 1000000 in
theorem of2_any (h b : Int) (w : World) : Calls Tryz.prog 164 #[.int .u64 h, .int .u64 b] w fun e w' => e = .returned (.int .u64 (dg2 h b)) ∧ w = w' := by
  go_enter Tryz.func164, Tryz.ntmps164
  go_wp2
  go_ret
  exact ⟨rfl, rfl⟩
set_option maxRecDepth 100000 in
set_option maxHeartbeats 1000000 in
theorem hash1_any (s : ByteArray) (w : World) (hs : s.size ≤ maxLen) :
    Calls Tryz.prog 162 #[.string s, .func (.func 163) #[] #[]] w fun e w' => e = .returned (.int .u64 (dgF dg1 (toL s))) ∧ w = w' := by
  have hs' : s.size ≤ 9223372036854775807 := by unfold maxLen at hs; exact hs
  go_enter Tryz.func162, Tryz.ntmps162
  go_wp2
  go_loop [5, 9] (fun q5 q9 => ∃ k : Nat, k ≤ s.size ∧ q9 = .int .i64 k ∧ q5 = .int .u64 (dgF dg1 ((toL s).take k))) (fun _ q9 => s.size - (intOf q9).toNat)
  case atStart => exact ⟨0, Nat.zero_le _, rfl, rfl⟩
  case round =>
    obtain ⟨k, hk, rfl, rfl⟩ := hrel
    by_cases hlt : k < s.size
    · have hlz : (k : Int) < (s.size : Int) := by omega
      have hkl : k < (toL s).length := by rw [← size_toL]; exact hlt
      have HN : Hid (dgF dg1 ((toL s).take (k + 1)) = dg1 (dgF dg1 ((toL s).take k)) (IntKind.u64.wrap (s[k].toNat : Int))) := dgF_snoc dg1 hkl
      generalize dgF dg1 ((toL s).take k) = h0 at *
      go_wp2_with fail
      refine (of1_any _ _ _).mono ?_
      rintro e w1 ⟨rfl, rfl⟩
      go_wp2_with fail
      go_round
      case rel => exact ⟨k + 1, by omega, by go_num, by rw [HN.out]; rfl⟩
      case measure => simp [intOf]; omega
    · have hlz : ¬ (k : Int) < (s.size : Int) := by omega
      have HE : Hid ((toL s).take k = toL s) := List.take_of_length_le (by rw [← size_toL]; omega)
      go_wp2_with fail
      go_ret
      exact ⟨by rw [HE.out]; rfl, rfl⟩
set_option maxRecDepth 100000 in
set_option maxHeartbeats 1000000 in
theorem hash2_any (s : ByteArray) (w : World) (hs : s.size ≤ maxLen) :
    Calls Tryz.prog 162 #[.string s, .func (.func 164) #[] #[]] w fun e w' => e = .returned (.int .u64 (dgF dg2 (toL s))) ∧ w = w' := by
  have hs' : s.size ≤ 9223372036854775807 := by unfold maxLen at hs; exact hs
  go_enter Tryz.func162, Tryz.ntmps162
  go_wp2
  go_loop [5, 9] (fun q5 q9 => ∃ k : Nat, k ≤ s.size ∧ q9 = .int .i64 k ∧ q5 = .int .u64 (dgF dg2 ((toL s).take k))) (fun _ q9 => s.size - (intOf q9).toNat)
  case atStart => exact ⟨0, Nat.zero_le _, rfl, rfl⟩
  case round =>
    obtain ⟨k, hk, rfl, rfl⟩ := hrel
    by_cases hlt : k < s.size
    · have hlz : (k : Int) < (s.size : Int) := by omega
      have hkl : k < (toL s).length := by rw [← size_toL]; exact hlt
      have HN : Hid (dgF dg2 ((toL s).take (k + 1)) = dg2 (dgF dg2 ((toL s).take k)) (IntKind.u64.wrap (s[k].toNat : Int))) := dgF_snoc dg2 hkl
      generalize dgF dg2 ((toL s).take k) = h0 at *
      go_wp2_with fail
      refine (of2_any _ _ _).mono ?_
      rintro e w1 ⟨rfl, rfl⟩
      go_wp2_with fail
      go_round
      case rel => exact ⟨k + 1, by omega, by go_num, by rw [HN.out]; rfl⟩
      case measure => simp [intOf]; omega
    · have hlz : ¬ (k : Int) < (s.size : Int) := by omega
      have HE : Hid ((toL s).take k = toL s) := List.take_of_length_le (by rw [← size_toL]; omega)
      go_wp2_with fail
      go_ret
      exact ⟨by rw [HE.out]; rfl, rfl⟩
theorem res_cellD {fn : Func} {c : Tmp} (h : fn.results = #[.cell c 30]) {w : World} {a : Array Value} {b : Nat} {x y : Value} (ha : a[c]?.getD undef = .pointer (some ⟨b, 0, none⟩)) (hk : Bk w b 30 #[x, y]) :
    (results fn a).run Tryz.prog w = .ok (.agg #[x, y]) w := by
  have h0 := hk.cell 0; have h1 := hk.cell 1
  simp at h0 h1
  simp [results, h, ha, go_sem, h0, h1]
def digV (d : Dig) : Value := .agg #[.int .u64 d.1, .int .u64 d.2]
def OfEnd (s : ByteArray) (w : World) (e : Ending) (w' : World) : Prop := e = .returned (digV (ofB (toL s))) ∧ Below w.heap.size w w'
set_option maxRecDepth 100000 in
set_option maxHeartbeats 2000000 in
theorem of_any (s : ByteArray) (w : World) (hs : s.size ≤ maxLen) : Calls Tryz.prog 113 #[.string s] w (OfEnd s w) := by
  have HE : Hid (ofB (toL s) = if dgF dg1 (toL s) = 0 ∧ dgF dg2 (toL s) = 0 then (0, 1) else (dgF dg1 (toL s), dgF dg2 (toL s))) := rfl
  have H1 := Lib.hid (hash1_any s (w.alloc (.cells #[.int .u64 0, .int .u64 0] 30)) hs)
  have H2 := Lib.hid (hash2_any s (w.alloc (.cells #[.int .u64 0, .int .u64 0] 30)) hs)
  have HV : Hid (∀ q, ofB (toL s) = q → ∀ e w', e = Ending.returned (digV q) → Below w.heap.size w w' → OfEnd s w e w') := fun q h e w' h1 h2 => by subst h; exact ⟨h1, h2⟩
  generalize dgF dg1 (toL s) = x at *
  generalize dgF dg2 (toL s) = y at *
  go_enter Tryz.func113, Tryz.ntmps113
  go_wp2_with fail
  refine H1.out.mono ?_
  rintro e w1 ⟨rfl, rfl⟩
  go_wp2_with fail
  refine H2.out.mono ?_
  rintro e w1 ⟨rfl, rfl⟩
  obtain ⟨W, hW⟩ : ∃ W, (w.alloc (.cells #[.int .u64 0, .int .u64 0] 30)).alloc (.cells #[.int .u64 x, .int .u64 y] 30) = W := ⟨_, rfl⟩
  have K0 : Hid (Bk W w.heap.size 30 #[.int .u64 0, .int .u64 0]) := by rw [← hW]; exact (Bk.new w _ _).alloc _
  have K1 : Hid (Bk W (w.heap.size + 1) 30 #[.int .u64 x, .int .u64 y]) := by
    rw [← hW]
    have := Bk.new (w.alloc (.cells #[.int .u64 0, .int .u64 0] 30)) 30 #[.int .u64 x, .int .u64 y]
    rw [World.size_alloc] at this
    exact this
  have HB : Hid (Below w.heap.size w W) := by rw [← hW]; exact ((Below.refl _ w).alloc (Nat.le_refl _) _).alloc (by simp) _
  have u0 := K0.out.cell 0; have u1 := K0.out.cell 1; have v0 := K1.out.cell 0; have v1 := K1.out.cell 1
  simp at u0 u1 v0 v1
  have f0 := K0.out.free 0; have f1 := K0.out.free 1; have g1 := K1.out.free 1
  clear H1 H2
  by_cases hz : x = 0 ∧ y = 0
  · have hb : (x == 0 && y == 0) = true := by simp [hz]
    have HQ : Hid (ofB (toL s) = (x, 1)) := by show _ = _; rw [HE.out, if_pos hz, hz.1]
    clear hz
    have W2 : Hid (Bk (W.setCell ⟨w.heap.size + 1, 1, none⟩ (.int .u64 1)) (w.heap.size + 1) 30 #[.int .u64 x, .int .u64 1]) := by
      have := K1.out.set 1 (.int .u64 1); show Bk _ _ _ _; simpa using this
    have KF : Hid (Bk (W.setCell ⟨w.heap.size + 1, 1, none⟩ (.int .u64 1)) w.heap.size 30 #[.int .u64 0, .int .u64 0]) := K0.out.far (by simp) _
    have a0 := W2.out.cell 0; have a1 := W2.out.cell 1; have b0 := KF.out.cell 0; have b1 := KF.out.cell 1
    simp at a0 a1 b0 b1
    have d0 := KF.out.free 0; have d1 := KF.out.free 1
    clear HE
    go_wp2_with fail
    refine bodyPost_ret (res_cellD Tryz.results113 rfl (KF.out.set2 _ _)) rfl ?_
    exact HV.out _ HQ.out _ _ rfl (below_set2 (HB.out.setCell (p := ⟨w.heap.size + 1, 1, none⟩) (by simp) _) (Nat.le_refl _) _ _)
  · have hb : (x == 0 && y == 0) = false := by
      rw [Bool.eq_false_iff]; intro h; simp at h; exact hz h
    have HQ : Hid (ofB (toL s) = (x, y)) := by show _ = _; rw [HE.out, if_neg hz]
    clear hz HE
    go_wp2_with fail
    refine bodyPost_ret (res_cellD Tryz.results113 rfl (K0.out.set2 _ _)) rfl ?_
    exact HV.out _ HQ.out _ _ rfl (below_set2 HB.out (Nat.le_refl _) _ _)

set_option maxRecDepth 100000 in
set_option maxHeartbeats 2000000 in
theorem rof_any (s : ByteArray) (w : World) (hs : s.size ≤ maxLen) : Calls Tryz.prog 20 #[.string s] w (OfEnd s w) := by
  have hs' : s.size ≤ 9223372036854775807 := by unfold maxLen at hs; exact hs
  have HE : Hid (ofB (toL s) = if dgF dg1 (toL s) = 0 ∧ dgF dg2 (toL s) = 0 then (0, 1) else (dgF dg1 (toL s), dgF dg2 (toL s))) := rfl
  have HV : Hid (∀ q, ofB (toL s) = q → ∀ e w', e = Ending.returned (digV q) → Below w.heap.size w w' → OfEnd s w e w') := fun q h e w' h1 h2 => by subst h; exact ⟨h1, h2⟩
  obtain ⟨W, hW⟩ : ∃ W, w.alloc (.cells #[.int .u64 0, .int .u64 0] 30) = W := ⟨_, rfl⟩
  have K0 : Hid (Bk W w.heap.size 30 #[.int .u64 0, .int .u64 0]) := by rw [← hW]; exact Bk.new w _ _
  have HB : Hid (Below w.heap.size w W) := by rw [← hW]; exact (Below.refl _ w).alloc (Nat.le_refl _) _
  have u0 := K0.out.cell 0; have u1 := K0.out.cell 1
  simp at u0 u1
  have f0 := K0.out.free 0; have f1 := K0.out.free 1
  go_enter Tryz.func20, Tryz.ntmps20
  go_wp2
  go_loop [3, 4, 5] (fun q3 q4 q5 => ∃ k : Nat, k ≤ s.size ∧ q5 = .int .i64 k ∧ q3 = .int .u64 (dgF dg1 ((toL s).take k)) ∧ q4 = .int .u64 (dgF dg2 ((toL s).take k))) (fun _ _ q5 => s.size - (intOf q5).toNat)
  case atStart => exact ⟨0, Nat.zero_le _, rfl, rfl, rfl⟩
  case round =>
    obtain ⟨k, hk, rfl, rfl, rfl⟩ := hrel
    by_cases hlt : k < s.size
    · have hlz : (k : Int) < (s.size : Int) := by omega
      have hkl : k < (toL s).length := by rw [← size_toL]; exact hlt
      have HN1 : Hid (dgF dg1 ((toL s).take (k + 1)) = dg1 (dgF dg1 ((toL s).take k)) (IntKind.u64.wrap (s[k].toNat : Int))) := dgF_snoc dg1 hkl
      have HN2 : Hid (dgF dg2 ((toL s).take (k + 1)) = dg2 (dgF dg2 ((toL s).take k)) (IntKind.u64.wrap (s[k].toNat : Int))) := dgF_snoc dg2 hkl
      generalize dgF dg1 ((toL s).take k) = x at *
      generalize dgF dg2 ((toL s).take k) = y at *
      go_wp2_with fail
      go_round
      case rel => exact ⟨k + 1, by omega, by go_num, by rw [HN1.out]; rfl, by rw [HN2.out]; rfl⟩
      case measure => simp [intOf]; omega
    · have hlz : ¬ (k : Int) < (s.size : Int) := by omega
      have hE : (toL s).take k = toL s := List.take_of_length_le (by rw [← size_toL]; omega)
      rw [hE]
      clear hE
      generalize dgF dg1 (toL s) = x at *
      generalize dgF dg2 (toL s) = y at *
      by_cases hz : x = 0 ∧ y = 0
      · have HQ : Hid (ofB (toL s) = (0, 1)) := by show _ = _; rw [HE.out, if_pos hz]
        obtain ⟨rfl, rfl⟩ := hz
        clear HE
        go_wp2_with fail
        refine bodyPost_ret (res_cellD Tryz.results20 rfl (K0.out.set2 _ _)) rfl ?_
        exact HV.out _ HQ.out _ _ rfl (below_set2 HB.out (Nat.le_refl _) _ _)
      · have HQ : Hid (ofB (toL s) = (x, y)) := by show _ = _; rw [HE.out, if_neg hz]
        clear HE
        by_cases hx : x = 0
        · have hy : (y == 0) = false := by rw [beq_eq_false_iff_ne]; exact fun h => hz ⟨hx, h⟩
          subst hx
          clear hz
          go_wp2_with fail
          refine bodyPost_ret (res_cellD Tryz.results20 rfl (K0.out.set2 _ _)) rfl ?_
          exact HV.out _ HQ.out _ _ rfl (below_set2 HB.out (Nat.le_refl _) _ _)
        · have hxb : (x == 0) = false := by rw [beq_eq_false_iff_ne]; exact hx
          clear hz hx
          go_wp2_with fail
          refine bodyPost_ret (res_cellD Tryz.results20 rfl (K0.out.set2 _ _)) rfl ?_
          exact HV.out _ HQ.out _ _ rfl (below_set2 HB.out (Nat.le_refl _) _ _)
end Go.Proofs.YtmdhlkkekidknaaGreatDoor

namespace Go.Proofs.YtmdhlkkekidknaaGreatDoor
open Go.RowKit

def ltD (a b : Dig) : Prop := a.1 < b.1 ∨ (a.1 = b.1 ∧ a.2 < b.2)
instance (a b : Dig) : Decidable (ltD a b) := by unfold ltD; infer_instance
def cmpD (a b : Dig) : Int := if a = b then 0 else if ltD a b then -1 else 1
theorem ltD_irrefl (a : Dig) : ¬ ltD a a := by unfold ltD; omega
theorem ltD_trans {a b c : Dig} (h : ltD a b) (h' : ltD b c) : ltD a c := by unfold ltD at *; omega
theorem ltD_ne {a b : Dig} (h : ltD a b) : a ≠ b := by rintro rfl; exact ltD_irrefl a h
theorem ltD_conn {a b : Dig} (h : ¬ ltD a b) (h' : ¬ ltD b a) : a = b := by
  obtain ⟨a1, a2⟩ := a; obtain ⟨b1, b2⟩ := b
  unfold ltD at *; simp only at *
  rw [Prod.mk.injEq]; omega
theorem cmpD_lt (a b : Dig) : cmpD a b < 0 ↔ ltD a b := by
  unfold cmpD
  split
  · rename_i h; subst h; simp [ltD_irrefl]
  · split <;> simp_all
theorem cmpD_zero (a b : Dig) : cmpD a b = 0 ↔ a = b := by
  unfold cmpD
  split
  · simp_all
  · split <;> simp_all
abbrev Itm := Dig × ByteArray
structure PlOk (p : List Itm) : Prop where
  enc : ∀ i ∈ p, ∃ o, OkO o ∧ i.2 = ofL (encO o)
  dg : ∀ i ∈ p, i.1 = ofB (toL i.2)
  asc : p.Pairwise (fun a b => ltD a.1 b.1)
theorem PlOk.nil : PlOk [] := ⟨(fun i h => by cases h), (fun i h => by cases h), List.Pairwise.nil⟩
def atD (p : List Itm) (d : Dig) : Nat := p.countP (fun i => decide (ltD i.1 d))
def AscI (p : List Itm) : Prop := p.Pairwise (fun a b => ltD a.1 b.1)
theorem atD_le (p : List Itm) (d : Dig) : atD p d ≤ p.length := List.countP_le_length
theorem AscI.tail {i : Itm} {p : List Itm} (h : AscI (i :: p)) : AscI p := (List.pairwise_cons.1 h).2
theorem AscI.head {i j : Itm} {p : List Itm} (h : AscI (i :: p)) (hj : j ∈ p) : ltD i.1 j.1 := (List.pairwise_cons.1 h).1 j hj
theorem atD_zero {p : List Itm} {d : Dig} (h : ∀ i ∈ p, ¬ ltD i.1 d) : atD p d = 0 := by
  unfold atD; rw [List.countP_eq_zero]; intro i hi; simp [h i hi]
theorem atD_cons_lt {i : Itm} {p : List Itm} {d : Dig} (h : ltD i.1 d) : atD (i :: p) d = atD p d + 1 := by
  unfold atD; rw [List.countP_cons_of_pos (by simp [h])]
theorem atD_cons_ge {i : Itm} {p : List Itm} {d : Dig} (ha : AscI (i :: p)) (h : ¬ ltD i.1 d) : atD (i :: p) d = 0 :=
  atD_zero (fun j hj => by
    rcases List.mem_cons.1 hj with rfl | hj
    · exact h
    · exact fun hl => h (ltD_trans (ha.head hj) hl))
theorem atD_below {p : List Itm} {d : Dig} (ha : AscI p) : ∀ {k : Nat} {i : Itm}, p[k]? = some i → k < atD p d → ltD i.1 d := by
  induction p with
  | nil => intro k i h; simp at h
  | cons j p ih =>
    intro k i h hk
    by_cases hj : ltD j.1 d
    · rw [atD_cons_lt hj] at hk
      cases k with
      | zero => simp at h; subst h; exact hj
      | succ k => simp at h; exact ih ha.tail h (by omega)
    · rw [atD_cons_ge ha hj] at hk; omega
theorem atD_above {p : List Itm} {d : Dig} (ha : AscI p) : ∀ {k : Nat} {i : Itm}, p[k]? = some i → atD p d ≤ k → ¬ ltD i.1 d := by
  induction p with
  | nil => intro k i h; simp at h
  | cons j p ih =>
    intro k i h hk
    by_cases hj : ltD j.1 d
    · rw [atD_cons_lt hj] at hk
      cases k with
      | zero => omega
      | succ k => simp at h; exact ih ha.tail h (by omega)
    · cases k with
      | zero => simp at h; subst h; exact hj
      | succ k =>
        simp at h
        exact fun hl => hj (ltD_trans (ha.head (List.mem_of_getElem? h)) hl)
def findP (p : List Itm) (d : Dig) : Option ByteArray := match p[atD p d]? with
  | some i => if i.1 = d then some i.2 else none
  | none => none
theorem AscI.uniq {p : List Itm} (ha : AscI p) {i j : Itm} (hi : i ∈ p) (hj : j ∈ p) (h : i.1 = j.1) : i = j := by
  induction p with
  | nil => cases hi
  | cons x p ih =>
    rcases List.mem_cons.1 hi with h1 | h1
    · rcases List.mem_cons.1 hj with h2 | h2
      · rw [h1, h2]
      · exact absurd h (ltD_ne (by rw [h1]; exact ha.head h2))
    · rcases List.mem_cons.1 hj with h2 | h2
      · exact absurd h.symm (ltD_ne (by rw [h2]; exact ha.head h1))
      · exact ih ha.tail h1 h2
theorem findP_some {p : List Itm} (ha : AscI p) {d : Dig} {b : ByteArray} : findP p d = some b ↔ (d, b) ∈ p := by
  induction p with
  | nil => simp [findP]
  | cons x p ih =>
    by_cases hx : ltD x.1 d
    · have e : findP (x :: p) d = findP p d := by unfold findP; rw [atD_cons_lt hx]; simp
      rw [e, ih ha.tail, List.mem_cons]
      exact ⟨.inr, fun h => h.resolve_left (fun h => by rw [← h] at hx; exact ltD_irrefl _ hx)⟩
    · unfold findP
      rw [atD_cons_ge ha hx]
      simp only [List.getElem?_cons_zero, List.mem_cons]
      by_cases he : x.1 = d
      · rw [if_pos he]
        constructor
        · intro h; cases h; left; rw [← he]
        · rintro (h | h)
          · rw [← h]
          · have := ha.head h
            rw [he] at this
            exact absurd this (ltD_irrefl _)
      · rw [if_neg he]
        constructor
        · intro h; cases h
        · rintro (h | h)
          · rw [← h] at he; exact absurd rfl he
          · exact absurd (ha.head h) hx
theorem findP_none {p : List Itm} (ha : AscI p) {d : Dig} : findP p d = none ↔ ∀ b, (d, b) ∉ p := by
  constructor
  · intro h b hb; rw [(findP_some ha).2 hb] at h; cases h
  · intro h
    cases hf : findP p d with
    | none => rfl
    | some b => exact absurd ((findP_some ha).1 hf) (h b)
def insP (p : List Itm) (x : Itm) : Option (List Itm) := match findP p x.1 with
  | some b => if b = x.2 then some p else none
  | none => some (p.take (atD p x.1) ++ [x] ++ p.drop (atD p x.1))
theorem insP_mem {p q : List Itm} {x : Itm} (ha : AscI p) (h : insP p x = some q) (i : Itm) : i ∈ q ↔ i ∈ p ∨ i = x := by
  unfold insP at h
  cases hf : findP p x.1 with
  | some b =>
    rw [hf] at h
    simp only at h
    split at h
    · rename_i e; cases h
      have := (findP_some ha).1 hf
      rw [e] at this
      exact ⟨.inl, fun h => h.elim id (fun h => by rw [h]; exact this)⟩
    · cases h
  | none =>
    rw [hf] at h
    cases h
    have e : i ∈ p ↔ i ∈ p.take (atD p x.1) ∨ i ∈ p.drop (atD p x.1) := by rw [← List.mem_append, List.take_append_drop]
    rw [e]
    simp only [List.mem_append, List.mem_singleton]
    constructor
    · rintro ((h | h) | h)
      · exact .inl (.inl h)
      · exact .inr h
      · exact .inl (.inr h)
    · rintro ((h | h) | h)
      · exact .inl (.inl h)
      · exact .inr h
      · exact .inl (.inr h)
theorem insP_asc {p q : List Itm} {x : Itm} (ha : AscI p) (h : insP p x = some q) : AscI q := by
  unfold insP at h
  cases hf : findP p x.1 with
  | some b =>
    rw [hf] at h
    simp only at h
    split at h
    · cases h; exact ha
    · cases h
  | none =>
    rw [hf] at h
    cases h
    have hn := (findP_none ha).1 hf
    have h1 : ∀ a ∈ p.take (atD p x.1), ltD a.1 x.1 := fun a hm => by
      obtain ⟨k, hk⟩ := List.mem_iff_getElem?.1 hm
      have hl : k < atD p x.1 := by
        have := (List.getElem?_eq_some_iff.1 hk).1
        rw [List.length_take] at this; omega
      rw [List.getElem?_take_of_lt hl] at hk
      exact atD_below ha hk hl
    have h2 : ∀ b ∈ p.drop (atD p x.1), ltD x.1 b.1 := fun b hm => by
      obtain ⟨k, hk⟩ := List.mem_iff_getElem?.1 hm
      rw [List.getElem?_drop] at hk
      have := atD_above (d := x.1) ha hk (by omega)
      have hb : b ∈ p := List.mem_of_getElem? hk
      by_cases hl : ltD x.1 b.1
      · exact hl
      · have e := ltD_conn hl this
        have h3 := hn b.2
        rw [show (x.1, b.2) = b by rw [e]] at h3
        exact absurd hb h3
    unfold AscI at ha ⊢
    rw [← List.take_append_drop (atD p x.1) p] at ha
    rw [List.pairwise_append] at ha
    rw [List.append_assoc, List.pairwise_append]
    refine ⟨ha.1, ?_, ?_⟩
    · rw [List.singleton_append, List.pairwise_cons]
      exact ⟨h2, ha.2.1⟩
    · intro a hm b hb
      rw [List.singleton_append, List.mem_cons] at hb
      rcases hb with rfl | hb
      · exact h1 a hm
      · exact ltD_trans (h1 a hm) (h2 b hb)
theorem insP_len {p q : List Itm} {x : Itm} (h : insP p x = some q) : q.length ≤ p.length + 1 := by
  unfold insP at h
  split at h
  · split at h
    · cases h; omega
    · cases h
  · cases h; simp; omega
theorem AscI.ext {p q : List Itm} (hp : AscI p) (hq : AscI q) (h : ∀ i, i ∈ p ↔ i ∈ q) : p = q := by
  induction p generalizing q with
  | nil =>
    cases q with
    | nil => rfl
    | cons y q => exact absurd ((h y).2 (by simp)) (by simp)
  | cons x p ih =>
    cases q with
    | nil => exact absurd ((h x).1 (by simp)) (by simp)
    | cons y q =>
      have e : x = y := by
        have h1 := (h x).1 (by simp)
        have h2 := (h y).2 (by simp)
        rcases List.mem_cons.1 h1 with e | h1
        · exact e
        rcases List.mem_cons.1 h2 with e | h2
        · exact e.symm
        exact absurd (ltD_trans (hq.head h1) (hp.head h2)) (ltD_irrefl _)
      subst e
      rw [ih hp.tail hq.tail]
      intro i
      constructor
      · intro hi
        rcases List.mem_cons.1 ((h i).1 (List.mem_cons_of_mem _ hi)) with rfl | h'
        · exact absurd (hp.head hi) (ltD_irrefl _)
        · exact h'
      · intro hi
        rcases List.mem_cons.1 ((h i).2 (List.mem_cons_of_mem _ hi)) with rfl | h'
        · exact absurd (hq.head hi) (ltD_irrefl _)
        · exact h'
theorem PlOk.ins {p q : List Itm} {o : Ob} (h : PlOk p) (ho : OkO o) (hi : insP p (ofB (encO o), ofL (encO o)) = some q) : PlOk q :=
  ⟨fun i hm => ((insP_mem h.asc hi i).1 hm).elim (h.enc i) (fun e => ⟨o, ho, by rw [e]⟩),
   fun i hm => ((insP_mem h.asc hi i).1 hm).elim (h.dg i) (fun e => by rw [e]; simp only; rw [toL_ofL]),
   insP_asc h.asc hi⟩
open Classical in
noncomputable def decO (s : ByteArray) : Ob := if h : ∃ o, OkO o ∧ s = ofL (encO o) then h.choose else ⟨0, ⟨#[]⟩, [], zD, [], ⟨#[]⟩, 0, ⟨#[]⟩⟩
theorem decO_enc {o : Ob} (ho : OkO o) : decO (ofL (encO o)) = o := by
  have h : ∃ o', OkO o' ∧ ofL (encO o) = ofL (encO o') := ⟨o, ho, rfl⟩
  unfold decO
  rw [dif_pos h]
  have hs := h.choose_spec
  have : encO o = encO h.choose := by have := congrArg toL hs.2; rwa [toL_ofL, toL_ofL] at this
  exact (encO_inj this ho.f hs.1.f).symm
noncomputable def getP (p : List Itm) (d : Dig) : Option Ob := (findP p d).map decO
theorem getP_some {p : List Itm} (h : PlOk p) {d : Dig} {o : Ob} : getP p d = some o ↔ OkO o ∧ (d, ofL (encO o)) ∈ p := by
  unfold getP
  rw [Option.map_eq_some_iff]
  constructor
  · rintro ⟨b, hb, rfl⟩
    have hm := (findP_some h.asc).1 hb
    obtain ⟨o, ho, e⟩ := h.enc _ hm
    simp only at e
    rw [e, decO_enc ho]
    rw [e] at hm
    exact ⟨ho, hm⟩
  · rintro ⟨ho, hm⟩
    exact ⟨_, (findP_some h.asc).2 hm, decO_enc ho⟩
theorem getP_ok {p : List Itm} (h : PlOk p) {d : Dig} {o : Ob} (hg : getP p d = some o) : OkO o := ((getP_some h).1 hg).1
theorem getP_none {p : List Itm} {d : Dig} : getP p d = none ↔ findP p d = none := by
  unfold getP; rw [Option.map_eq_none_iff]
def putP (p : List Itm) (o : Ob) : Option (List Itm) := insP p (ofB (encO o), ofL (encO o))
def dgO (o : Ob) : Dig := ofB (encO o)
theorem putP_ok {p q : List Itm} {o : Ob} (h : PlOk p) (ho : OkO o) (hi : putP p o = some q) : PlOk q := h.ins ho hi
theorem putP_get {p q : List Itm} {o : Ob} (h : PlOk p) (ho : OkO o) (hi : putP p o = some q) : getP q (dgO o) = some o :=
  (getP_some (putP_ok h ho hi)).2 ⟨ho, (insP_mem h.asc hi _).2 (.inr rfl)⟩
def subP (p q : List Itm) : Prop := ∀ i ∈ p, i ∈ q
theorem subP.refl (p : List Itm) : subP p p := fun _ h => h
theorem subP.trans {p q r : List Itm} (h : subP p q) (k : subP q r) : subP p r := fun i hi => k i (h i hi)
theorem putP_sub {p q : List Itm} {o : Ob} (h : PlOk p) (hi : putP p o = some q) : subP p q := fun i hm => (insP_mem h.asc hi i).2 (.inl hm)
theorem getP_mono {p q : List Itm} (hp : PlOk p) (hq : PlOk q) (hs : subP p q) {d : Dig} {o : Ob} (h : getP p d = some o) : getP q d = some o :=
  (getP_some hq).2 ⟨((getP_some hp).1 h).1, hs _ ((getP_some hp).1 h).2⟩
theorem getP_dg {p : List Itm} (h : PlOk p) {d : Dig} {o : Ob} (hg : getP p d = some o) : d = dgO o := by
  have := h.dg _ ((getP_some h).1 hg).2
  simp only at this
  rw [toL_ofL] at this; exact this
end Go.Proofs.YtmdhlkkekidknaaGreatDoor

namespace Go.Proofs.YtmdhlkkekidknaaGreatDoor
open Go.RowKit

structure Gb (p : Nat → Prop) (w w' : World) : Prop where
  os : w'.os = w.os
  tape : w'.tape = w.tape
  output : w'.output = w.output
  size : w.heap.size ≤ w'.heap.size
  block : ∀ k, k < w.heap.size → ¬ p k → w'.heap[k]? = w.heap[k]?
section
variable {p q : Nat → Prop} {a b c : World}
theorem Gb.refl (p : Nat → Prop) (w : World) : Gb p w w := ⟨rfl, rfl, rfl, Nat.le_refl _, fun _ _ _ => rfl⟩
theorem Gb.trans (h : Gb p a b) (k : Gb p b c) : Gb p a c := ⟨k.os.trans h.os, k.tape.trans h.tape, k.output.trans h.output, Nat.le_trans h.size k.size, fun i hi hp => (k.block i (Nat.lt_of_lt_of_le hi h.size) hp).trans (h.block i hi hp)⟩
theorem Gb.mono (h : Gb p a b) (hq : ∀ k, k < a.heap.size → p k → q k) : Gb q a b := ⟨h.os, h.tape, h.output, h.size, fun i hi hn => h.block i hi (fun hp => hn (hq i hi hp))⟩
theorem Gb.of_below (h : Below a.heap.size a b) : Gb p a b := ⟨h.os, h.tape, h.output, h.size, fun i hi _ => h.block i hi⟩
theorem Gb.below {B : Nat} (h : Gb p a b) (hB : B ≤ a.heap.size) (hp : ∀ k, k < B → ¬ p k) : Below B a b := ⟨h.os, h.tape, h.output, h.size, fun i hi => h.block i (by omega) (hp i hi)⟩
theorem Gb.set {w : World} {x : Nat} (hx : p x) (o : Nat) (v : Value) : Gb p w (w.setCell ⟨x, o, none⟩ v) := ⟨rfl, rfl, rfl, by simp, fun i _ hn => Below.heap_setCell w ⟨x, o, none⟩ v i (fun e => hn (by have e' : i = x := e; rw [e']; exact hx))⟩
theorem Gb.after {x : Nat} (h : Gb p a b) (hx : a.heap.size ≤ x) (o : Nat) (v : Value) : Gb p a (b.setCell ⟨x, o, none⟩ v) := ⟨h.os, h.tape, h.output, by have := h.size; simpa using this, fun i hi hn => (Below.heap_setCell b ⟨x, o, none⟩ v i (fun e => by have e' : i = x := e; omega)).trans (h.block i hi hn)⟩
theorem Gb.bk {x : Nat} {t : TypeId} {cs : Array Value} (h : Gb p a b) (hk : Bk a x t cs) (hx : ¬ p x) : Bk b x t cs := (h.block x hk.lt hx).trans hk
end

theorem bk_set10 {w : World} {rb : Nat} {t : TypeId} {x y : Value} (h : Bk w rb t #[x, y]) (x' y' : Value) : Bk ((w.setCell ⟨rb, 1, none⟩ y').setCell ⟨rb, 0, none⟩ x') rb t #[x', y'] := by
  have := (h.set 1 y').set 0 x'
  simpa using this
theorem gb_set10 (w : World) (rb : Nat) (x' y' : Value) : Gb (fun g => g = rb) w ((w.setCell ⟨rb, 1, none⟩ y').setCell ⟨rb, 0, none⟩ x') :=
  (Gb.set (p := fun g => g = rb) (x := rb) rfl 1 y').trans (Gb.set (p := fun g => g = rb) (x := rb) rfl 0 x')

theorem Gb.sl {p : Nat → Prop} {w w' : World} {B size n : Nat} {A : Option Addr} {xs : List Value} (h : Gb p w w') (hs : Sl w B size A n xs) (hB : B ≤ w.heap.size) (hp : ∀ k, k < B → ¬ p k) : Sl w' B size A n xs := hs.below (h.below hB hp) (Nat.le_refl _)
end Go.Proofs.YtmdhlkkekidknaaGreatDoor

namespace Go.Proofs.YtmdhlkkekidknaaGreatDoor
open Go.RowKit Go.Maps

def rawR (v : Value) : Option (DataW Value × List MemPlace) := some (.held v, [])
theorem rawR_inv {v u : Value} {ps : List MemPlace} (h : rawR v = some (.held u, ps)) : v = u := by
  simp [rawR] at h; exact h.1
def Rm (w : World) (P : Program) (k : TypeId) (b N : Nat) (g : ByteArray → Option Value) : Prop :=
  ∃ D : DataW Value, w.ownsMap P k rawR b N D ∧ ∀ s : ByteArray, Maps.has D (.string s.data.toList) = (g s).isSome ∧ ∀ z, D.atKey (.string s.data.toList) (.held z) = .held ((g s).getD z)
def upd (g : ByteArray → Option Value) (s : ByteArray) (v : Value) : ByteArray → Option Value := fun t => if t = s then some v else g t
theorem upd_same (g : ByteArray → Option Value) (s : ByteArray) (v : Value) : upd g s v s = some v := by simp [upd]
theorem upd_other (g : ByteArray → Option Value) {s t : ByteArray} (v : Value) (h : t ≠ s) : upd g s v t = g t := by simp [upd, h]

section
variable {w w' : World} {P : Program} {k t e : TypeId} {b N : Nat} {g : ByteArray → Option Value}
theorem Rm.made (w : World) (P : Program) (k : TypeId) : Rm (w.alloc (.map #[] 0)) P k w.heap.size 0 (fun _ => none) :=
  ⟨.map [], World.ownsMap_made w P k rawR, fun _ => ⟨rfl, fun _ => rfl⟩⟩
theorem Rm.lt (h : Rm w P k b N g) : b < w.heap.size := h.choose_spec.1.lt
theorem Rm.more (h : Rm w P k b N g) {M : Nat} (hm : N ≤ M) : Rm w P k b M g := by
  obtain ⟨D, h1, h2⟩ := h; exact ⟨D, h1.mono hm, h2⟩
theorem Rm.kept {row : Option Nat} (h : Rm w P k b N g) (hg : w.grownBy w' row) (hr : some b ≠ row) : Rm w' P k b N g := by
  obtain ⟨D, h1, h2⟩ := h; exact ⟨D, h1.kept hg hr, h2⟩
theorem Rm.below {B : Nat} (h : Rm w P k b N g) (hb : Below B w w') (hB : b < B) : Rm w' P k b N g := by
  obtain ⟨D, ⟨es, clock, h1, h2⟩, h3⟩ := h
  exact ⟨D, ⟨es, clock, (hb.block b hB).trans h1, h2⟩, h3⟩
theorem Rm.alloc (h : Rm w P k b N g) (o : Obj) : Rm (w.alloc o) P k b N g := h.kept (World.grownBy_alloc w o none) (by simp)
theorem key_str (hk : P.underlying k = some .string) {s : ByteArray} (hs : s.size ≤ maxLen) : keyOf P k (.string s) = some (.string s.data.toList) := by simp [keyOf, hk, mapKey]; exact hs
theorem Rm.look (h : Rm w P k b N g) (hk : P.underlying k = some .string) (ht : P.underlying t = some (.map k e)) {z : Value} (hz : (zeroValue e).run P w = .ok z w) {s : ByteArray} (hs : s.size ≤ maxLen) :
    (Instr.lookup t (.map (some b)) (.string s) false).run P w = .ok ((g s).getD z) w := by
  obtain ⟨D, h1, h2⟩ := h
  obtain ⟨v, ps, hrun, hv⟩ := h1.lookup (string_keyed hk) ht hz (zd := .held z) (zp := []) rfl (key_str hk hs)
  rw [(h2 s).2 z] at hv
  rw [hrun, rawR_inv hv]
theorem Rm.look_ok (h : Rm w P k b N g) (hk : P.underlying k = some .string) (ht : P.underlying t = some (.map k e)) {z : Value} (hz : (zeroValue e).run P w = .ok z w) {s : ByteArray} (hs : s.size ≤ maxLen) :
    (Instr.lookup t (.map (some b)) (.string s) true).run P w = .ok (.tuple #[(g s).getD z, .bool (g s).isSome]) w := by
  obtain ⟨D, h1, h2⟩ := h
  obtain ⟨v, ps, hrun, hv⟩ := h1.look_ok (string_keyed hk) ht hz (zd := .held z) (zp := []) rfl (key_str hk hs)
  rw [(h2 s).2 z] at hv
  rw [hrun, rawR_inv hv, (h2 s).1]
theorem lit_ne {s r : ByteArray} (h : r ≠ s) : (Lit.string r.data.toList) ≠ .string s.data.toList := fun e => h (data_inj (by injection e))
theorem Rm.put (h : Rm w P k b N g) (hk : P.underlying k = some .string) (ht : P.underlying t = some (.map k e)) (hn : N < maxLen) {s : ByteArray} (hs : s.size ≤ maxLen) (v : Value) :
    ∃ w', (Instr.mapUpdate t (.map (some b)) (.string s) v).run P w = .ok () w' ∧ Rm w' P k b (N + 1) (upd g s v) ∧ w.grownBy w' (some b) := by
  obtain ⟨D, h1, h2⟩ := h
  obtain ⟨w', hrun, ho, hg⟩ := h1.update (string_keyed hk) ht hn (key_str hk hs) (d := .held v) (ps := []) rfl
  refine ⟨w', hrun, ⟨_, ho, fun r => ?_⟩, hg⟩
  have hkl := (string_keyed hk).key (key_str hk hs)
  by_cases hr : r = s
  · subst hr
    rw [upd_same, has_put_same h1.isMap hkl]
    exact ⟨rfl, fun z => atKey_put_same h1.isMap hkl _ _⟩
  · rw [upd_other _ _ hr, has_put_other (lit_ne hr)]
    exact ⟨(h2 r).1, fun z => (atKey_put_other (lit_ne hr) _ _).trans ((h2 r).2 z)⟩
theorem wpList_put_rm {ops : Array Oper} {rest : List Oper} {o : Oper} {a : Act} {Q : Exit → Act → World → Prop} (hgd : o.guard = none) (m x y : Operand) (t : TypeId) (hop : o.op = Op.mapUpdate t m x y)
    (k e : TypeId) (hk : P.underlying k = some .string) (ht : P.underlying t = some (.map k e)) (b N : Nat) (g : ByteArray → Option Value) (hm : a.eval m = .map (some b)) (h : Rm w P k b N g) (hn : N < maxLen)
    (s : ByteArray) (hs : s.size ≤ maxLen) (v : Value) (hx : a.eval x = .string s) (hy : a.eval y = v)
    (hK : ∀ w', Rm w' P k b (N + 1) (upd g s v) → w.grownBy w' (some b) → wpList P ops Q rest (a.put o.dst undef) w') : wpList P ops Q (o :: rest) a w := by
  refine wpList_plain hgd fun K' hK' => ?_
  obtain ⟨w', hrun, r1, r2⟩ := h.put hk ht hn hs v
  unfold Oper.wp
  simp [execOp, hop, hm, hx, hy, hrun, Result.andThen]
  exact hK' _ _ (hK w' r1 r2)

/-! ### ranging -/
variable {r cnt : Nat} {left : ByteArray → Bool}
end
end Go.Proofs.YtmdhlkkekidknaaGreatDoor

namespace Go.Proofs.YtmdhlkkekidknaaGreatDoor
open Go.RowKit

def wd1 (l : Bytes) (k : Nat) : Nat := valF 0 (l.take (min k 8))
def wd2 (l : Bytes) (k : Nat) : Nat := valF 0 ((l.drop 8).take (k - 8))
theorem valF_snoc (l : Bytes) (b : UInt8) : valF 0 (l ++ [b]) = valF 0 l * 256 + b.toNat := by simp [valF]
theorem wd1_step {l : Bytes} {k : Nat} {b : UInt8} (h : l[k]? = some b) (hk : k < 8) : wd1 l (k + 1) = wd1 l k * 256 + b.toNat ∧ wd2 l (k + 1) = wd2 l k := by
  unfold wd1 wd2
  rw [show min (k + 1) 8 = k + 1 by omega, show min k 8 = k by omega, take_snoc h, valF_snoc, show k + 1 - 8 = 0 by omega, show k - 8 = 0 by omega]
  exact ⟨rfl, rfl⟩
theorem wd2_step {l : Bytes} {k : Nat} {b : UInt8} (h : l[k]? = some b) (hk : 8 ≤ k) : wd1 l (k + 1) = wd1 l k ∧ wd2 l (k + 1) = wd2 l k * 256 + b.toNat := by
  unfold wd1 wd2
  have h' : (l.drop 8)[k - 8]? = some b := by rw [List.getElem?_drop, show 8 + (k - 8) = k by omega]; exact h
  rw [show min (k + 1) 8 = 8 by omega, show min k 8 = 8 by omega, show k + 1 - 8 = k - 8 + 1 by omega, take_snoc h', valF_snoc]
  exact ⟨rfl, rfl⟩
theorem wd1_lt {l : Bytes} {k : Nat} (hk : k < 8) : wd1 l k < 256 ^ 7 := by
  have h := valF_lt (l.take (min k 8)) 0
  have hl : (l.take (min k 8)).length ≤ 7 := by rw [List.length_take]; omega
  have := Nat.pow_le_pow_right (n := 256) (by omega) hl
  unfold wd1; omega
theorem wd2_lt {l : Bytes} {k : Nat} (hk : k < 16) : wd2 l k < 256 ^ 7 := by
  have h := valF_lt ((l.drop 8).take (k - 8)) 0
  have hl : ((l.drop 8).take (k - 8)).length ≤ 7 := by rw [List.length_take]; omega
  have := Nat.pow_le_pow_right (n := 256) (by omega) hl
  unfold wd2; omega
theorem w_end (l : Bytes) : dg l = ((wd1 l 16 : Int), (wd2 l 16 : Int)) := rfl
theorem byte_get {s : ByteArray} {k : Nat} (h : k < s.size) : (toL s)[k]? = some s[k] := by
  rw [List.getElem?_eq_getElem (by rw [← size_toL]; exact h)]; rfl

theorem or_join {x y : Nat} (hx : x < 256 ^ 7) (hy : y < 256) : bits .or .u64 ((x : Int) * 256) (y : Int) = (x : Int) * 256 + (y : Int) :=
  bits_join .u64 64 (by decide) (fun n h0 h1 => IntWalk.u64_in n (by omega)) 8 ((x : Int) * 256) (y : Int) (by omega) (by omega) (by omega) (by omega) (by omega) (by omega)

end Go.Proofs.YtmdhlkkekidknaaGreatDoor

namespace Go.Proofs.YtmdhlkkekidknaaGreatDoor
open Go.RowKit

structure Kt (w w' : World) : Prop where
  others : KeepsOthers w w'
  same : ∀ (k : Nat) (cs : Array Value) (t : TypeId) (fr : Nat × Nat), t ≠ 5 → t ≠ 227 → w.heap[k]? = some (.cells cs t fr) → w'.heap[k]? = some (.cells cs t fr)
theorem Kt.refl (w : World) : Kt w w := ⟨KeepsOthers.refl w, fun _ _ _ _ _ _ h => h⟩
theorem Kt.trans {a b c : World} (h : Kt a b) (k : Kt b c) : Kt a c := ⟨h.others.trans k.others, fun i cs t fr h5 h9 hi => k.same i cs t fr h5 h9 (h.same i cs t fr h5 h9 hi)⟩
theorem Kt.alloc (w : World) (o : Obj) : Kt w (w.alloc o) := ⟨KeepsOthers.alloc w o, fun k _ _ _ _ _ h => (Below.heap_alloc w o k (Array.getElem?_eq_some_iff.1 h).1).trans h⟩
theorem Kt.setCell {w : World} {b i : Nat} {cs : Array Value} {fr : Nat × Nat} (hb : w.heap[b]? = some (.cells cs 227 fr)) (v : Value) : Kt w (w.setCell ⟨b, i, none⟩ v) :=
  ⟨KeepsOthers.setCell _ _ _, fun k cs' t fr' _ h9 h => (Below.heap_setCell w ⟨b, i, none⟩ v k (fun e => by
    have e' : k = b := e
    rw [e', hb] at h
    simp only [Option.some.injEq, Obj.cells.injEq] at h
    exact h9 h.2.1.symm)).trans h⟩
theorem Kt.grown {w w' : World} {base size n : Nat} {v : Value} {xs : List Value} (hown : w.ownsRow base 5 size v n xs) (hg : w.grownBy w' v.ownBlock) : Kt w w' := by
  have key : ∀ j, v.ownBlock = some j → ∃ cur, w.heap[j]? = some (.cells cur 5 (0, 0)) := by
    intro j hj
    rcases hown.2 with ⟨hv, _⟩ | ⟨g, cap, cur, hv, _, hh, _⟩
    · rw [hv] at hj; cases hj
    · rw [hv] at hj; cases hj; exact ⟨cur, hh⟩
  refine ⟨KeepsOthers.of_grownBy hg fun j o hj ho => ?_, fun k cs t fr h5 _ h => ?_⟩
  · obtain ⟨cur, hc⟩ := key j hj
    rw [hc] at ho; cases ho; rfl
  · refine (hg.block k (Array.getElem?_eq_some_iff.1 h).1 (fun e => ?_)).trans h
    obtain ⟨cur, hc⟩ := key k e.symm
    rw [hc] at h
    simp only [Option.some.injEq, Obj.cells.injEq] at h
    exact h5 h.2.1.symm
theorem infoByte : (Tryz.prog.info? 5).map (fun i => (i.zero, i.size, i.bytes)) = some (some (.int .u8 0), 1, 1) := by kernel_rfl

set_option maxHeartbeats 1000000 in
set_option maxRecDepth 100000 in
theorem copy_used (b : Nat) (w : World) (h0 : w.cell? ⟨b, 0, none⟩ = some (.pointer (some ⟨b, 0, none⟩))) :
    Calls Tryz.prog 221 #[.pointer (some ⟨b, 0, none⟩)] w fun e w' => e = .returned (.tuple #[]) ∧ w' = w := by
  obtain ⟨j, hj, _⟩ := Option.map_eq_some_iff.1 Tryz.Builder_Extra_169.sizeBuilder
  go_enter Tryz.func221, Tryz.ntmps221
  go_wp2
  rw [Lib.run_neq_ptr_same w _ Tryz.underlying225 hj]
  go_wp2
  go_end0
  exact ⟨rfl, rfl⟩

set_option maxHeartbeats 1000000 in
set_option maxRecDepth 100000 in
theorem copy_fresh (b : Nat) (w : World) (h0 : w.cell? ⟨b, 0, none⟩ = some (.pointer none)) (hsh : w.shape? b = some (227, 2)) (hfz : w.frozen? ⟨b, 0, none⟩ = false) :
    Calls Tryz.prog 221 #[.pointer (some ⟨b, 0, none⟩)] w fun e w' => e = .returned (.tuple #[]) ∧ w' = w.setCell ⟨b, 0, none⟩ (.pointer (some ⟨b, 0, none⟩)) := by
  obtain ⟨j, hj, hjs⟩ := Option.map_eq_some_iff.1 Tryz.Builder_Extra_169.sizeBuilder
  go_enter Tryz.func221, Tryz.ntmps221
  go_wp2
  rw [Lib.run_to_unsafe w ⟨b, 0, none⟩ Tryz.underlying225 Tryz.underlying247 hj (by rw [hjs]; decide) hsh (Nat.zero_lt_succ 1)]
  simp only [Result.andThen]
  rw [Oper.upon_value]
  go_wp2
  rw [run_callFunc_extern Tryz.func223 (by kernel_rfl) (by kernel_rfl) (by kernel_rfl) (e := Extern.AbiNoEscape.same) (by kernel_rfl)]
  rw [Lib.run_noEscape]
  simp only [Result.andThen]
  rw [Oper.upon_value]
  go_wp2
  rw [Lib.run_from_unsafe w ⟨b, 0, none⟩ Tryz.underlying247 Tryz.underlying225 hj hsh Tryz.Builder_Extra_169.liesBuilder]
  simp only [Result.andThen]
  rw [Oper.upon_value]
  go_wp2
  go_end0
  exact ⟨rfl, rfl⟩

theorem copy_any (B b : Nat) (bs : List Value) (w : World) (h : Lib.IsBuilder 227 5 B b bs w) :
    Calls Tryz.prog 221 #[.pointer (some ⟨b, 0, none⟩)] w fun e w' => e = .returned (.tuple #[]) ∧ (Lib.BuilderAt 227 5 B b (.pointer (some ⟨b, 0, none⟩)) bs w' ∧ Below B w w' ∧ Kt w w') := by
  rcases h with h | h
  · refine (copy_fresh b w h.cell0 h.shape h.frozen0).mono ?_
    rintro e w' ⟨rfl, rfl⟩
    obtain ⟨_, v, hb, _⟩ := id h
    exact ⟨rfl, h.used _, (Below.refl B w).setCell (p := ⟨b, 0, none⟩) h.1 _, Kt.setCell hb _⟩
  · refine (copy_used b w h.cell0).mono ?_
    rintro e w' ⟨rfl, rfl⟩
    exact ⟨rfl, h, Below.refl B _, Kt.refl _⟩

set_option maxHeartbeats 2000000 in
set_option maxRecDepth 100000 in
theorem writeByte_any (B b : Nat) (bs : List Value) (c : Int) (w : World) (h : Lib.IsBuilder 227 5 B b bs w) (hlen : bs.length + 1 ≤ 140737488355328) (hBw : B ≤ w.heap.size) :
    Calls Tryz.prog 220 #[.pointer (some ⟨b, 0, none⟩), .int .u8 c] w fun e w' => e = .returned .nilIface ∧ (Lib.BuilderAt 227 5 B b (.pointer (some ⟨b, 0, none⟩)) (bs ++ [.int .u8 c]) w' ∧ Below B w w' ∧ Kt w w') := by
  obtain ⟨i0, hi, hz0, hz1, hz2⟩ := info_parts infoByte
  go_enter Tryz.func220, Tryz.ntmps220
  go_wp2_with fail
  refine (copy_any B b bs _ h).mono ?_
  rintro e w1 ⟨rfl, h1, hb1, hk1⟩
  have HK1 := Lib.hid hk1; clear hk1
  obtain ⟨hB, v, hbk, hown, hne⟩ := h1
  have c0 : w1.cell? ⟨b, 0, none⟩ = some (.pointer (some ⟨b, 0, none⟩)) := by rw [Lib.cell_of_heap hbk]; rfl
  have c1 : w1.cell? ⟨b, 1, none⟩ = some v := by rw [Lib.cell_of_heap hbk]; rfl
  go_wp2_with (at_builtin; refine wpList_append_own _ rfl _ _ 161 rfl B 5 i0 (.int .u8 0) 1 1 Tryz.underlying161 hi hz0 hz1 hz2 rfl (by decide) _ _ _ rfl (hown.alloc _) ⟨w1.heap.size, 0, none⟩ 1 1 [.int .u8 c] rfl rfl ?c1 ?c2 ?c3 ?c4 ?c5 ?_)
  case c1 =>
    intro j u hj
    match j, hj with
    | 0, hj => simp at hj; subst hj; simp [Addr.add]
  case c2 => intro u hu; simp at hu; subst hu; rfl
  case c3 => unfold maxLen; omega
  case c4 => omega
  case c5 => have := hb1.size; simp; omega
  intro v' w2 hown' hgrow _
  have HK2 : Hid (Kt w w2) := (HK1.out.trans (Kt.alloc _ _)).trans (Kt.grown (hown.alloc _) hgrow)
  have hlt : b < w1.heap.size := (Array.getElem?_eq_some_iff.1 hbk).1
  have hb2 : w2.heap[b]? = some (.cells #[.pointer (some ⟨b, 0, none⟩), v] 227 (0, 0)) := by
    rw [hgrow.block b (by simp; omega) (fun e => hne e.symm), Lib.alloc_old w1 _ b hlt]
    exact hbk
  have d0 : w2.cell? ⟨b, 0, none⟩ = some (.pointer (some ⟨b, 0, none⟩)) := by rw [Lib.cell_of_heap hb2]; rfl
  have d1 : w2.cell? ⟨b, 1, none⟩ = some v := by rw [Lib.cell_of_heap hb2]; rfl
  have f1 : w2.frozen? ⟨b, 1, none⟩ = false := Lib.frozen_of_heap hb2 1
  obtain ⟨g, cap, rfl⟩ : ∃ g cap, v' = .slice (some ⟨g, 0, none⟩) (bs.length + 1) cap := by
    rcases hown'.2 with ⟨_, h0⟩ | ⟨g, cap, cur, hv, _⟩
    · omega
    · exact ⟨g, cap, hv⟩
  go_wp2
  go_ret
  refine ⟨rfl, ?_, ?_, HK2.out.trans (Kt.setCell hb2 _)⟩
  · exact Lib.BuilderAt.put (T := 227) (e := 5) hB hb2 (bs' := bs ++ [.int .u8 c]) (by simpa using hown') (by decide)
  · exact ((hb1.alloc (by have := hb1.size; omega) _).grown hgrow (by have := hb1.size; simp; omega) (fun k hk => (hown.lt k hk).1)).setCell (p := ⟨b, 1, none⟩) hB _

set_option maxHeartbeats 2000000 in
set_option maxRecDepth 100000 in
theorem writeString_any (B b : Nat) (bs : List Value) (s : ByteArray) (w : World) (h : Lib.IsBuilder 227 5 B b bs w) (hlen : bs.length + s.size ≤ 140737488355328) (hBw : B ≤ w.heap.size) :
    Calls Tryz.prog 214 #[.pointer (some ⟨b, 0, none⟩), .string s] w fun e w' => e = .returned (.tuple #[.int .i64 s.size, .nilIface]) ∧ (Lib.BuilderAt 227 5 B b (.pointer (some ⟨b, 0, none⟩)) (bs ++ Lib.strCells s) w' ∧ Below B w w' ∧ Kt w w') := by
  obtain ⟨i0, hi, hz0, hz1, hz2⟩ := info_parts infoByte
  go_enter Tryz.func214, Tryz.ntmps214
  go_wp2_with fail
  refine (copy_any B b bs _ h).mono ?_
  rintro e w1 ⟨rfl, h1, hb1, hk1⟩
  have HK1 := Lib.hid hk1; clear hk1
  obtain ⟨hB, v, hbk, hown, hne⟩ := h1
  have c0 : w1.cell? ⟨b, 0, none⟩ = some (.pointer (some ⟨b, 0, none⟩)) := by rw [Lib.cell_of_heap hbk]; rfl
  have c1 : w1.cell? ⟨b, 1, none⟩ = some v := by rw [Lib.cell_of_heap hbk]; rfl
  go_wp2_with (at_builtin; refine Lib.wpList_append_own_string _ rfl _ _ 161 9 rfl B 5 i0 Tryz.underlying161 Tryz.underlying9 hi hz0 hz1 hz2 _ _ _ rfl hown s rfl ?c3 ?c4 ?c5 ?_)
  case c3 => unfold maxLen; omega
  case c4 => omega
  case c5 => have := hb1.size; omega
  intro v' w2 hown' hgrow _
  have HK2 : Hid (Kt w w2) := HK1.out.trans (Kt.grown hown hgrow)
  have hlt : b < w1.heap.size := (Array.getElem?_eq_some_iff.1 hbk).1
  have hb2 : w2.heap[b]? = some (.cells #[.pointer (some ⟨b, 0, none⟩), v] 227 (0, 0)) := by
    rw [hgrow.block b hlt (fun e => hne e.symm)]
    exact hbk
  have d0 : w2.cell? ⟨b, 0, none⟩ = some (.pointer (some ⟨b, 0, none⟩)) := by rw [Lib.cell_of_heap hb2]; rfl
  have d1 : w2.cell? ⟨b, 1, none⟩ = some v := by rw [Lib.cell_of_heap hb2]; rfl
  have f1 : w2.frozen? ⟨b, 1, none⟩ = false := Lib.frozen_of_heap hb2 1
  obtain ⟨ao, n', cap, rfl⟩ : ∃ ao n' cap, v' = .slice ao n' cap := by
    rcases hown'.2 with ⟨hv, _⟩ | ⟨g, cap, cur, hv, _⟩
    · exact ⟨_, _, _, hv⟩
    · exact ⟨_, _, _, hv⟩
  go_wp2
  go_ret2
  refine ⟨rfl, ?_, ?_, HK2.out.trans (Kt.setCell hb2 _)⟩
  · exact Lib.BuilderAt.put (T := 227) (e := 5) hB hb2 (bs' := bs ++ Lib.strCells s) (by simpa [Lib.strCells_length] using hown') (by decide)
  · exact (hb1.grown hgrow (by have := hb1.size; omega) (fun k hk => (hown.lt k hk).1)).setCell (p := ⟨b, 1, none⟩) hB _
end Go.Proofs.YtmdhlkkekidknaaGreatDoor

namespace Go.Proofs.YtmdhlkkekidknaaGreatDoor
open Go.RowKit Go.Shelf
attribute [local go_sem] Oper.semAt_some

def KeepB (lo : Nat) (A B : World) : Prop := B.heap[lo]? = A.heap[lo]?
theorem keepB_t {lo : Nat} {A B C : World} (h : KeepB lo A B) (k : KeepB lo B C) : KeepB lo A C := k.trans h
theorem keepB_put {lo m : Nat} (h : lo < m) (W : World) (l : Nat) (o : Obj) (hl : m ≤ l) : KeepB lo W (W.putObj l o) := World.putObj_heap_other (by omega)
def StB (lo : Nat) (A B : World) : Prop := ∃ v, B = A.setCell ⟨lo, 0, none⟩ (.int .i64 v)
theorem stB_others {lo : Nat} (A B : World) (h : StB lo A B) : KeepsOthers A B := by
  obtain ⟨v, rfl⟩ := h
  exact KeepsOthers.setCell _ _ _
def numAt (lo : Nat) (w : World) : Nat := match w.cell? ⟨lo, 0, none⟩ with
  | some (.int _ n) => n.toNat
  | _ => 0
theorem numAt_eq {lo : Nat} {w : World} {n : Nat} (h : w.heap[lo]? = some (.cells #[.int .i64 n] 3 (0, 0))) : numAt lo w = n := by
  have := cell_of_one h
  simp [numAt, this]

set_option maxRecDepth 100000 in
set_option maxHeartbeats 1000000 in
theorem digits_st (n lo : Nat) (hn : 1 ≤ n) (m : Nat) (w : World) (hm : m ≤ 9223372036854775807) (hlo : lo < w.heap.size) (h0 : w.heap[lo]? = some (.cells #[.int .i64 m] 3 (0, 0))) :
    SeqP Fence.wide n Tryz.prog 222 #[.pointer (some ⟨lo, 0, none⟩)] (fun x : UInt8 => #[.int .u8 x.toNat]) (KeepB lo) (StB lo)
      (fun pre => ∃ r, pre ++ r = encN m) (fun xs => xs = encN m) (fun pre => ∃ r, pre ++ r = encN m) w := fun l J Jx W hW hJ hY hJ0 => by
  have g0 : W.heap[lo]? = some (.cells #[.int .i64 m] 3 (0, 0)) := (hW.block lo (by omega)).trans h0
  clear hW h0
  have G0 := Lib.hid g0; have HJ := Lib.hid hJ; have HY := Lib.hid hY; have HJ0 := Lib.hid hJ0
  clear g0 hJ hY hJ0
  refine callsIn_of_wp Tryz.func222 rfl trivial ?_ rfl
  simp only [Tryz.ntmps222, List.size_toArray, List.length_cons, List.length_nil, Nat.reduceAdd, Nat.reduceSub, Array.replicate_succ, Array.replicate_zero, List.push_toArray, List.append_toArray, List.nil_append, List.cons_append]
  gi_wp2_with fail
  gi_loopw [3, 4] (fun _ _ wr => ∃ (pre : Bytes) (c : Nat), c ≤ 9223372036854775807 ∧ Hid (wr.heap[lo]? = some (.cells #[.int .i64 c] 3 (0, 0))) ∧ Hid (pre ++ encN c = encN m) ∧ J pre wr)
    (fun _ _ wr => numAt lo wr)
  case atStart => exact ⟨[], m, hm, G0, rfl, HJ0.out⟩
  case round =>
    obtain ⟨pre, c, hc, k0, hsp, hj⟩ := hrel
    have d0 := cell_of_one k0.out
    have f0 := free_of_one k0.out
    have HJR := Lib.hid hj
    clear hj
    by_cases hs : c < 128
    · have e8 := toNat_ofNat8 (n := c) (by omega)
      obtain ⟨fn, tmps, assign, body, hy, hR⟩ := HY.out pre (UInt8.ofNat c) wr ⟨[], by rw [List.append_nil, ← hsp.out, encN_small hs]⟩ HJR.out
      rw [e8] at hy
      have HR := Lib.hid hR
      have HE := Lib.hid (encN_small hs)
      clear hR e8
      have hci : ¬ (128 : Int) ≤ (c : Int) := by omega
      gi_wp2
      refine HR.out.mono ?_
      rintro e W3 (⟨rfl, hJ3, _⟩ | ⟨rfl, hJx3⟩)
      · gi_wp2
        go_end0
        exact ⟨⟨_, rfl⟩, .inl ⟨pre ++ [UInt8.ofNat c], by rw [← hsp.out, HE.out], hJ3⟩⟩
      · gi_wp2
        go_end0
        exact ⟨⟨_, rfl⟩, .inr ⟨pre ++ [UInt8.ofNat c], ⟨[], by rw [← hsp.out, HE.out, List.append_nil]⟩, hJx3⟩⟩
    · have e8 := toNat_ofNat8 (n := c % 128 + 128) (by omega)
      have ei : (((UInt8.ofNat (c % 128 + 128)).toNat : Nat) : Int) = (c : Int) % 128 + 128 := by rw [e8]; omega
      obtain ⟨fn, tmps, assign, body, hy, hR⟩ := HY.out pre (UInt8.ofNat (c % 128 + 128)) wr ⟨encN (c / 128), by rw [← hsp.out, encN_big hs, List.append_assoc]; rfl⟩ HJR.out
      rw [ei] at hy
      have HR := Lib.hid hR
      have HE := Lib.hid (encN_big hs)
      clear hR e8 ei
      have hci : (128 : Int) ≤ (c : Int) := by omega
      gi_wp2
      refine HR.out.mono ?_
      rintro e W3 (⟨rfl, hJ3, hK3⟩ | ⟨rfl, hJx3⟩)
      · have m0 : W3.heap[lo]? = some (.cells #[.int .i64 c] 3 (0, 0)) := hK3.trans k0.out
        have e0 := cell_of_one m0; have q0 := free_of_one m0
        have M0 := Lib.hid m0
        have HJ3 := Lib.hid hJ3
        clear m0 hJ3 hK3 d0 f0
        gi_wp2
        go_roundw
        case rel =>
          refine ⟨pre ++ [UInt8.ofNat (c % 128 + 128)], c / 128, by omega, one_setCell M0.out, ?_, HJ.out _ _ _ HJ3.out ⟨_, rfl⟩⟩
          show _ = _
          rw [← hsp.out, HE.out, List.append_assoc]; rfl
        case measure =>
          have hq := one_setCell (u := .int .i64 ((c / 128 : Nat) : Int)) M0.out
          rw [show (c : Int) / 128 = ((c / 128 : Nat) : Int) by omega, numAt_eq hq, numAt_eq k0.out]
          omega
      · gi_wp2
        refine bodyPost_ret (results_none rfl _ _ _) rfl ?_
        exact ⟨⟨_, rfl⟩, .inr ⟨pre ++ [UInt8.ofNat (c % 128 + 128)], ⟨encN (c / 128), by rw [← hsp.out, HE.out, List.append_assoc]; rfl⟩, hJx3⟩⟩

set_option maxHeartbeats 400000 in
theorem digits_any (m : Int) (w : World) :
    Calls Tryz.prog 219 #[.int .i64 m] w fun e w' => e = .returned (.func (.func 222) #[] #[.pointer (some ⟨w.heap.size, 0, none⟩)]) ∧ w' = w.alloc (.cells #[.int .i64 m] 3) := by
  go_enter Tryz.func219, Tryz.ntmps219
  go_wp2
  go_ret
  exact ⟨rfl, rfl⟩

theorem builder_own {B b : Nat} {p : Value} {bs : List Value} {W W' : World} {row : Option Nat} (h : Lib.BuilderAt 227 5 B b p bs W) (hg : W.grownBy W' row) (hr : ∀ r, row = some r → ∃ o : Obj, W.heap[r]? = some o ∧ o.isCells = false) : Lib.BuilderAt 227 5 B b p bs W' := by
  obtain ⟨hB, v, hb, hown, hne⟩ := h
  have key : ∀ (k : Nat) (cs : Array Value) (t : TypeId) (fr : Nat × Nat), W.heap[k]? = some (Obj.cells cs t fr) → W'.heap[k]? = some (Obj.cells cs t fr) := fun k cs t fr hk =>
    (hg.block k (Array.getElem?_eq_some_iff.1 hk).1 (fun e => by
      obtain ⟨o, ho, hc⟩ := hr k e.symm
      rw [ho] at hk; cases hk; cases hc)).trans hk
  refine ⟨hB, v, key _ _ _ _ hb, ⟨hown.1, ?_⟩, hne⟩
  rcases hown.2 with h0 | ⟨g, cap, cur, hv, h1, hh, h2⟩
  · exact .inl h0
  · exact .inr ⟨g, cap, cur, hv, h1, key _ _ _ _ hh, h2⟩
theorem isBuilder_own {B b : Nat} {bs : List Value} {W W' : World} {row : Option Nat} (h : Lib.IsBuilder 227 5 B b bs W) (hg : W.grownBy W' row) (hr : ∀ r, row = some r → ∃ o : Obj, W.heap[r]? = some o ∧ o.isCells = false) : Lib.IsBuilder 227 5 B b bs W' := by
  rcases h with h | h
  · exact .inl (builder_own h hg hr)
  · exact .inr (builder_own h hg hr)
theorem isBuilder_box {B b lo : Nat} {bs : List Value} {W : World} {v u : Value} (h : Lib.IsBuilder 227 5 B b bs W) (hlo : W.heap[lo]? = some (.cells #[v] 3 (0, 0))) : Lib.IsBuilder 227 5 B b bs (W.setCell ⟨lo, 0, none⟩ u) := by
  have key : ∀ (k : Nat) (cs : Array Value) (t : TypeId) (fr : Nat × Nat), t ≠ 3 → W.heap[k]? = some (Obj.cells cs t fr) → (W.setCell ⟨lo, 0, none⟩ u).heap[k]? = some (Obj.cells cs t fr) := fun k cs t fr h3 hk =>
    (Below.heap_setCell W ⟨lo, 0, none⟩ u k (fun e => by
      have e' : k = lo := e
      rw [e', hlo] at hk
      simp only [Option.some.injEq, Obj.cells.injEq] at hk
      exact h3 hk.2.1.symm)).trans hk
  have one : ∀ p, Lib.BuilderAt 227 5 B b p bs W → Lib.BuilderAt 227 5 B b p bs (W.setCell ⟨lo, 0, none⟩ u) := by
    rintro p ⟨hB, v', hb, hown, hne⟩
    refine ⟨hB, v', key _ _ _ _ (by decide) hb, ⟨hown.1, ?_⟩, hne⟩
    rcases hown.2 with h0 | ⟨g, cap, cur, hv, h1, hh, h2⟩
    · exact .inl h0
    · exact .inr ⟨g, cap, cur, hv, h1, key _ _ _ _ (by decide) hh, h2⟩
  rcases h with h | h
  · exact .inl (one _ h)
  · exact .inr (one _ h)
theorem isBuilder_alloc {B b : Nat} {bs : List Value} {W : World} (h : Lib.IsBuilder 227 5 B b bs W) (o : Obj) : Lib.IsBuilder 227 5 B b bs (W.alloc o) :=
  isBuilder_own h (World.grownBy_alloc W o none) (fun r e => by cases e)

theorem byteCells_snoc (l : Bytes) (x : UInt8) : Lib.byteCells l ++ [.int .u8 x.toNat] = Lib.byteCells (l ++ [x]) := by simp [Lib.byteCells]
theorem byteCells_len (l : Bytes) : (Lib.byteCells l).length = l.length := by simp [Lib.byteCells]

set_option maxRecDepth 100000 in
set_option maxHeartbeats 2000000 in
theorem writeInt_any (B b : Nat) (bs : Bytes) (m : Nat) (w : World) (h : Lib.IsBuilder 227 5 B b (Lib.byteCells bs) w) (hBw : B ≤ w.heap.size) (hm : m ≤ 1099511627776) (hlen : bs.length ≤ 1099511627776) :
    Calls Tryz.prog 212 #[.pointer (some ⟨b, 0, none⟩), .int .i64 m] w fun e w' => e = .returned (.tuple #[]) ∧ Lib.IsBuilder 227 5 B b (Lib.byteCells (bs ++ encN m)) w' ∧ Below B w w' := by
  refine (callsIn_wide (n := 6)).1 ?_
  have hf78 : Fence.wide.fn 219 := trivial
  have hf79 : Fence.wide.fn 220 := trivial
  have HH := Lib.hid h; clear h
  refine callsIn_of_wp_marks Tryz.func212 rfl trivial ?_ rfl
  simp only [Tryz.ntmps212, List.size_toArray, List.length_cons, List.length_nil, Nat.reduceAdd, Nat.reduceSub, Array.replicate_succ, Array.replicate_zero, List.push_toArray, List.append_toArray, List.nil_append, List.cons_append]
  gi_wp2_with (gi_at_call 219; refine (callsIn_wide.2 (digits_any _ _)).mono ?_; rintro e w' ⟨rfl, rfl⟩)
  obtain ⟨W0, hW0⟩ : ∃ W0, (w.alloc (.cells #[.pointer (some ⟨b, 0, none⟩)] 225)).alloc (.cells #[.int .i64 m] 3) = W0 := ⟨_, rfl⟩
  have hz : W0.heap.size = w.heap.size + 2 := by rw [← hW0]; simp
  have g0 : W0.heap[w.heap.size]? = some (.cells #[.pointer (some ⟨b, 0, none⟩)] 225 (0, 0)) := by
    rw [← hW0]
    exact (Below.heap_alloc _ _ _ (by simp)).trans (World.alloc_heap_new w _)
  have g1 : W0.heap[w.heap.size + 1]? = some (.cells #[.int .i64 m] 3 (0, 0)) := by
    rw [← hW0]
    have := World.alloc_heap_new (w.alloc (.cells #[.pointer (some ⟨b, 0, none⟩)] 225)) (.cells #[.int .i64 m] 3); rwa [World.size_alloc] at this
  have hb0 : Below B w W0 := by
    rw [← hW0]
    exact ((Below.refl _ w).alloc hBw _).alloc (by simp; omega) _
  have hbd : Lib.IsBuilder 227 5 B b (Lib.byteCells bs) W0 := by
    rw [← hW0]; exact isBuilder_alloc (isBuilder_alloc HH.out _) _
  rw [hW0]
  refine wpIn_rangeP (F := Fence.wide) (n := 6) rfl (by omega) (gf := 222) (lb := #[.pointer (some ⟨w.heap.size + 1, 0, none⟩)]) rfl trivial (enters_of Tryz.func222 (by kernel_rfl) rfl)
    (digits_st 5 (w.heap.size + 1) (by omega) m W0 (by omega) (by omega) g1) keepB_t (fun W l o hl => keepB_put (m := w.heap.size + 2) (by omega) W l o (by omega)) stB_others (Below.refl _ _) (fun _ => rfl)
    (fun pre W => W.heap[w.heap.size]? = some (.cells #[.pointer (some ⟨b, 0, none⟩)] 225 (0, 0)) ∧ (∃ c, W.heap[w.heap.size + 1]? = some (.cells #[.int .i64 c] 3 (0, 0))) ∧ Lib.IsBuilder 227 5 B b (Lib.byteCells (bs ++ pre)) W ∧ Below B w W)
    (fun _ _ _ => False) ?hI ?hIx ?hIS ⟨g0, ⟨_, g1⟩, by rw [List.append_nil]; exact hbd, hb0⟩
    (fun x => { tmps := #[.pointer (some ⟨b, 0, none⟩), .int .i64 m, .pointer (some ⟨w.heap.size, 0, none⟩), undef, .int .u8 x.toNat, .int .i64 m, .func (.func 222) #[] #[.pointer (some ⟨w.heap.size + 1, 0, none⟩)], .int .u8 x.toNat, undef, undef, undef], defers := [] }) ?assign ?body ?done ?stop
  case hI =>
    rintro pre A C row ⟨h1, ⟨c, h2⟩, h3, h4⟩ hg hr
    have hnc : ∀ r, row = some r → ∃ o : Obj, A.heap[r]? = some o ∧ o.isCells = false := fun r e => (hr r e).2
    have key : ∀ (k : Nat) (v : Value) (t : TypeId), A.heap[k]? = some (Obj.cells #[v] t (0, 0)) → C.heap[k]? = some (Obj.cells #[v] t (0, 0)) := fun k v t hk =>
      (hg.block k (lt_of_block hk) (fun e => by
        obtain ⟨o, ho, hc⟩ := hnc k e.symm
        rw [ho] at hk; cases hk; cases hc)).trans hk
    exact ⟨key _ _ _ h1, ⟨c, key _ _ _ h2⟩, isBuilder_own h3 hg hnc, h4.grown hg (Nat.le_trans hBw h4.size) (fun k e => by have := (hr _ e).1; omega)⟩
  case hIx => rintro c pre A C row hf _ _; exact hf
  case hIS =>
    rintro pre A C ⟨h1, ⟨c, h2⟩, h3, h4⟩ ⟨v, rfl⟩
    exact ⟨(Below.heap_setCell _ _ _ _ (by simp)).trans h1, ⟨v, one_setCell h2⟩, isBuilder_box h3 h2, h4.setCell (p := ⟨w.heap.size + 1, 0, none⟩) (by show B ≤ w.heap.size + 1; omega) _⟩
  case assign =>
    intro l x W K hK
    gi_wp2
    exact hK
  case body =>
    rintro l pre x W ⟨r, hr⟩ ⟨h1, ⟨c, h2⟩, h3, h4⟩
    have c0 := cell_of_one h1
    have hpl : pre.length + 1 ≤ 6 := by
      have e1 := congrArg List.length hr
      have e2 := encN_len 5 m (by omega)
      simp at e1; omega
    have H1 := Lib.hid h1; have H2 := Lib.hid h2; have H3 := Lib.hid h3; have H4 := Lib.hid h4
    clear h1 h2 h3 h4 g0 g1 hb0 hW0 hz hbd hr
    gi_wp2_with (gi_at_call 220; refine (CallsIn.inRound l (callsIn_wide.2 (writeByte_any B b (Lib.byteCells (bs ++ pre)) _ _ H3.out (by rw [byteCells_len, List.length_append]; omega) (Nat.le_trans hBw H4.out.size)))).mono ?_; rintro e w' ⟨rfl, k1, k2, k3⟩)
    refine ⟨k3.others, ?_, ?_⟩
    · show _ = _
      rw [k3.same _ _ _ _ (by decide) (by decide) H2.out, H2.out]
    · refine ⟨k3.same _ _ _ _ (by decide) (by decide) H1.out, ⟨c, k3.same _ _ _ _ (by decide) (by decide) H2.out⟩, ?_, H4.out.trans k2⟩
      rw [byteCells_snoc, List.append_assoc] at k1
      exact .inr k1
  case done =>
    rintro D xs W hD rfl ⟨h1, _, h3, h4⟩ hK
    have H3 := Lib.hid h3; have H4 := Lib.hid h4; have HK := Lib.hid hK
    clear h1 h3 h4 hK
    gi_wp2
    refine ⟨by simp, .inl ⟨_, _, rfl, run_takeDeferred HK.out, ?_⟩⟩
    refine ⟨_, results_none rfl _ _ _, rfl, ?_, ?_⟩
    · exact isBuilder_own H3.out (grownBy_putObj' _ _ _) (fun r e => by cases e; exact ⟨_, HK.out, rfl⟩)
    · exact H4.out.grown (grownBy_putObj' _ _ _) (Nat.le_trans hBw H4.out.size) (fun k e => by cases e; omega)
  case stop =>
    rintro D c pre W hD hS hf hK
    exact hf.elim
end Go.Proofs.YtmdhlkkekidknaaGreatDoor

namespace Go.Proofs.YtmdhlkkekidknaaGreatDoor
open Go.RowKit

theorem strCells_eq (s : ByteArray) : Lib.strCells s = Lib.byteCells (toL s) := by simp [Lib.strCells, Lib.byteCells, toL]
theorem inRange_any (n : Nat) (hn : n ≤ 1099511627776) (w : World) : Calls Tryz.prog 211 #[.int .i64 n] w fun e w' => e = .returned (.bool true) ∧ w = w' := by
  have h0 : (0 : Int) ≤ (n : Int) := by omega
  have h1 : (n : Int) ≤ 1099511627776 := by omega
  go_enter Tryz.func211, Tryz.ntmps211
  go_wp2
  go_ret
  exact ⟨rfl, rfl⟩

set_option maxHeartbeats 1000000 in
theorem putInt_any (n : Nat) (hn : n ≤ 1099511627776) (w : World) :
    Calls Tryz.prog 192 #[.int .i64 n] w fun e w' => e = .returned (.tuple #[.string (ofL (encN n)), .int .i64 0]) ∧ Below w.heap.size w w' := by
  go_enter Tryz.func192, Tryz.ntmps192
  go_wp2_with (go_at_call 211; refine (inRange_any n hn _).mono ?_; rintro e w' ⟨rfl, rfl⟩)
  have hb := Lib.fresh_isBuilder 227 5 w
  refine (writeInt_any w.heap.size w.heap.size [] n _ hb (by simp) hn (by simp)).mono ?_
  rintro e w1 ⟨rfl, h1, hb1⟩
  rw [List.nil_append] at h1
  have H1 := Lib.hid h1
  have HB1 : Hid (Below w.heap.size w w1) := ((Below.refl _ w).alloc (Nat.le_refl _) _).trans hb1
  clear hb hb1 h1
  go_wp2_with fail
  refine (Tryz.Builder_String_any w.heap.size w.heap.size (encN n) _ H1.out HB1.out.size).mono ?_
  rintro e w2 ⟨rfl, hb2⟩
  have HB2 := Lib.hid (HB1.out.trans hb2); clear hb2
  go_wp2_with fail
  go_ret2
  exact ⟨rfl, HB2.out⟩

set_option maxHeartbeats 1000000 in
theorem putText_any (s : ByteArray) (hs : s.size ≤ 65536) (w : World) :
    Calls Tryz.prog 193 #[.string s] w fun e w' => e = .returned (.tuple #[.string (ofL (encT (toL s))), .int .i64 0]) ∧ Below w.heap.size w w' := by
  have hsi : ¬ (65536 : Int) < (s.size : Int) := by omega
  have hsz := size_toL s
  have HSZ := Lib.hid hsz; clear hsz
  go_enter Tryz.func193, Tryz.ntmps193
  go_wp2_with fail
  have hb := Lib.fresh_isBuilder 227 5 w
  refine (writeInt_any w.heap.size w.heap.size [] s.size _ hb (by simp) (by omega) (by simp)).mono ?_
  rintro e w1 ⟨rfl, h1, hb1⟩
  rw [List.nil_append] at h1
  have H1 := Lib.hid h1
  have HB1 : Hid (Below w.heap.size w w1) := ((Below.refl _ w).alloc (Nat.le_refl _) _).trans hb1
  clear hb hb1 h1
  go_wp2_with fail
  refine (writeString_any w.heap.size w.heap.size (Lib.byteCells (encN s.size)) s _ H1.out (by rw [byteCells_len]; have := encN_len 5 s.size (by omega); omega) HB1.out.size).mono ?_
  rintro e w2 ⟨rfl, h2, hb2, _⟩
  have H2 : Hid (Lib.IsBuilder 227 5 w.heap.size w.heap.size (Lib.byteCells (encT (toL s))) w2) := by
    refine .inr ?_
    have e1 : Lib.byteCells (encN s.size) ++ Lib.strCells s = Lib.byteCells (encT (toL s)) := by
      rw [strCells_eq]; unfold encT; rw [← HSZ.out]; simp [Lib.byteCells]
    rw [← e1]; exact h2
  have HB2 := Lib.hid (HB1.out.trans hb2)
  clear hb2 h2
  go_wp2_with fail
  refine (Tryz.Builder_String_any w.heap.size w.heap.size _ _ H2.out HB2.out.size).mono ?_
  rintro e w3 ⟨rfl, hb3⟩
  have HB3 := Lib.hid (HB2.out.trans hb3); clear hb3
  go_wp2_with fail
  go_ret2
  exact ⟨rfl, HB3.out⟩
end Go.Proofs.YtmdhlkkekidknaaGreatDoor

namespace Go.Proofs.YtmdhlkkekidknaaGreatDoor
open Go.RowKit

def RetI (r : Nat × Nat × Int) (w : World) (e : Ending) (w' : World) : Prop := e = .returned (.tuple #[.int .i64 r.1, .int .i64 r.2.1, .int .i64 r.2.2]) ∧ w = w'
theorem drop_byte {s : ByteArray} {k : Nat} (h : k < s.size) : (toL s).drop k = s[k] :: (toL s).drop (k + 1) := by
  rw [List.drop_eq_getElem_cons (by rw [← size_toL]; exact h)]; rfl

set_option maxRecDepth 100000 in
set_option maxHeartbeats 2000000 in
theorem getInt_any (s : ByteArray) (w : World) : Calls Tryz.prog 199 #[.string s] w (RetI (getI (toL s)) w) := by
  have HR : Hid (∀ r, getI (toL s) = r → ∀ e w', RetI r w e w' → RetI (getI (toL s)) w e w') := fun r h e w' hh => by rw [h]; exact hh
  have H0 : Hid (getI (toL s) = gi 6 0 0 1 ((toL s).drop 0)) := rfl
  go_enter Tryz.func199, Tryz.ntmps199
  go_wp2
  go_loop [5, 6, 9] (fun n u i => ∃ k a b : Nat, k ≤ 6 ∧ i = .int .i64 k ∧ n = .int .i64 a ∧ u = .int .i64 b ∧ 1 ≤ b ∧ b ≤ 128 ^ 6 ∧ Hid (b = 128 ^ k) ∧ a < b ∧ Hid (getI (toL s) = gi (6 - k) k a b ((toL s).drop k))) (fun _ _ i => 6 - (intOf i).toNat)
  case atStart => exact ⟨0, 0, 1, by omega, rfl, rfl, rfl, by omega, by omega, rfl, by omega, H0.out⟩
  case round =>
    obtain ⟨k, a, b, hk, rfl, rfl, rfl, hb1, hb2, hb, hab, hg⟩ := hrel
    by_cases hlt : k < 6
    · have hf : Hid (6 - k = 5 - k + 1) := by show _ = _; omega
      by_cases hsz : k < s.size
      · have hsz' : ¬ (s.size : Int) ≤ (k : Int) := by omega
        have hbn : Hid (128 * b = 128 ^ (k + 1)) := by show _ = _; rw [hb.out, Nat.pow_succ, Nat.mul_comm]
        have hbp : 128 * b ≤ 128 ^ 6 := by rw [hbn.out]; exact Nat.pow_le_pow_right (by omega) (by omega)
        have hst : Hid (getI (toL s) = if s[k].toNat < 128 then (if (s[k].toNat = 0 ∧ 0 < k) ∨ 1099511627776 < a + s[k].toNat * b then (0, 0, 13) else (a + s[k].toNat * b, k + 1, 0)) else gi (5 - k) (k + 1) (a + (s[k].toNat - 128) * b) (b * 128) ((toL s).drop (k + 1))) := by
          show _ = _
          rw [hg.out, hf.out, drop_byte hsz, gi]
        have hd : s[k].toNat < 256 := s[k].toNat_lt
        generalize hdd : s[k].toNat = d at *
        have hdi : (s[k].toNat : Int) = (d : Int) := by rw [hdd]
        clear hdd
        by_cases h128 : d < 128
        · obtain ⟨p, hp⟩ : ∃ p, d * b = p := ⟨_, rfl⟩
          have hpb : p ≤ 128 * b := by rw [← hp]; exact Nat.mul_le_mul_right _ (by omega)
          have hpi : (d : Int) * (b : Int) = (p : Int) := by rw [← hp]; simp
          have h128i : ¬ (128 : Int) ≤ (d : Int) := by omega
          rw [hp, if_pos h128] at hst
          clear hp
          by_cases hmx : 1099511627776 < a + p
          · have hmxi : (1099511627776 : Int) < (a : Int) + (p : Int) := by omega
            have hfin : Hid (getI (toL s) = (0, 0, 13)) := by show _ = _; rw [hst.out, if_pos (.inr hmx)]
            clear hst hg
            by_cases hd0 : d = 0
            · have hd0i : ((d : Int) == 0) = true := by rw [beq_iff_eq]; omega
              clear hd0
              by_cases hk0 : (0 : Int) < (k : Int)
              all_goals
                go_wp2
                go_ret3
                exact HR.out _ hfin.out _ _ ⟨rfl, rfl⟩
            · have hd0i : ((d : Int) == 0) = false := by rw [beq_eq_false_iff_ne]; omega
              clear hd0
              go_wp2
              go_ret3
              exact HR.out _ hfin.out _ _ ⟨rfl, rfl⟩
          · have hmxi : ¬ (1099511627776 : Int) < (a : Int) + (p : Int) := by omega
            by_cases hd0 : d = 0
            · have hd0i : ((d : Int) == 0) = true := by rw [beq_iff_eq]; omega
              by_cases hk0 : 0 < k
              · have hk0i : (0 : Int) < (k : Int) := by omega
                have hfin : Hid (getI (toL s) = (0, 0, 13)) := by show _ = _; rw [hst.out, if_pos (.inl ⟨hd0, hk0⟩)]
                clear hst hg hd0
                go_wp2
                go_ret3
                exact HR.out _ hfin.out _ _ ⟨rfl, rfl⟩
              · have hk0i : ¬ (0 : Int) < (k : Int) := by omega
                have hfin : Hid (getI (toL s) = (a + p, k + 1, 0)) := by show _ = _; rw [hst.out, if_neg (by omega)]
                clear hst hg hd0
                go_wp2
                go_ret3
                exact HR.out _ hfin.out _ _ ⟨rfl, rfl⟩
            · have hd0i : ((d : Int) == 0) = false := by rw [beq_eq_false_iff_ne]; omega
              have hfin : Hid (getI (toL s) = (a + p, k + 1, 0)) := by show _ = _; rw [hst.out, if_neg (by omega)]
              clear hst hg hd0
              go_wp2
              go_ret3
              exact HR.out _ hfin.out _ _ ⟨rfl, rfl⟩
        · obtain ⟨p, hp⟩ : ∃ p, (d - 128) * b = p := ⟨_, rfl⟩
          have hpb : p + b ≤ 128 * b := by
            have : (d - 128 + 1) * b ≤ 128 * b := Nat.mul_le_mul_right _ (by omega)
            rw [Nat.add_mul, hp] at this; omega
          have hpi : ((d : Int) - 128) * (b : Int) = (p : Int) := by
            rw [← hp, Int.natCast_mul, Int.ofNat_sub (by omega)]; rfl
          have h128i : (128 : Int) ≤ (d : Int) := by omega
          rw [hp, if_neg h128] at hst
          clear hp
          go_wp2
          go_round
          case rel => exact ⟨k + 1, a + p, b * 128, by omega, by go_num, by go_num, by go_num, by omega, by omega, by show _ = _; rw [Nat.mul_comm]; exact hbn.out, by omega, by show _ = _; rw [hst.out, show 6 - (k + 1) = 5 - k by omega]⟩
          case measure => simp [intOf]; omega
      · have hsz' : (s.size : Int) ≤ (k : Int) := by omega
        have hfin : Hid (getI (toL s) = (0, 0, 12)) := by
          show _ = _
          rw [hg.out, hf.out, List.drop_of_length_le (by rw [← size_toL]; omega), gi]
        clear hg
        go_wp2
        go_ret3
        exact HR.out _ hfin.out _ _ ⟨rfl, rfl⟩
    · have hfin : Hid (getI (toL s) = (0, 0, 13)) := by
        show _ = _
        rw [hg.out, show 6 - k = 0 by omega, gi]
      clear hg
      go_wp2
      go_ret3
      exact HR.out _ hfin.out _ _ ⟨rfl, rfl⟩
def RetT (r : Bytes × Nat × Int) (w : World) (e : Ending) (w' : World) : Prop := e = .returned (.tuple #[.string (ofL r.1), .int .i64 r.2.1, .int .i64 r.2.2]) ∧ w = w'
theorem extract_ofL (s : ByteArray) (a n : Nat) : s.extract a (a + n) = ofL (((toL s).drop a).take n) := by
  apply ByteArray.ext
  apply Array.toList_inj.1
  show (s.extract a (a + n)).data.toList = ((toL s).drop a).take n
  rw [extract_list, Nat.add_sub_cancel_left]; rfl

set_option maxRecDepth 100000 in
set_option maxHeartbeats 2000000 in
theorem getText_any (s : ByteArray) (hs : s.size ≤ maxLen) (w : World) : Calls Tryz.prog 200 #[.string s] w (RetT (getT (toL s)) w) := by
  unfold maxLen at hs
  have HR : Hid (∀ r, getT (toL s) = r → ∀ e w', RetT r w e w' → RetT (getT (toL s)) w e w') := fun r h e w' hh => by rw [h]; exact hh
  have HD : Hid (getT (toL s) = if (getI (toL s)).2.2 ≠ 0 then ([], 0, (getI (toL s)).2.2) else if 65536 < (getI (toL s)).1 then ([], 0, 13) else if (toL s).length < (getI (toL s)).2.1 + (getI (toL s)).1 then ([], 0, 12) else (((toL s).drop (getI (toL s)).2.1).take (getI (toL s)).1, (getI (toL s)).2.1 + (getI (toL s)).1, 0)) := rfl
  rw [← size_toL] at HD
  have hle := getI_le (toL s)
  rw [← size_toL] at hle
  have hmx := getI_max (toL s)
  go_enter Tryz.func200, Tryz.ntmps200
  go_wp2_with fail
  refine (getInt_any s _).mono ?_
  generalize getI (toL s) = r at *
  obtain ⟨n, k, e⟩ := r
  rintro e' w' ⟨rfl, rfl⟩
  simp only at hle hmx HD ⊢
  by_cases he : e = 0
  · subst he
    by_cases hn : 65536 < n
    · have hni : (65536 : Int) < (n : Int) := by omega
      have hfin : Hid (getT (toL s) = ([], 0, 13)) := by show _ = _; rw [HD.out, if_neg (by simp), if_pos hn]
      clear HD
      go_wp2
      go_ret3
      exact HR.out _ hfin.out _ _ ⟨rfl, rfl⟩
    · have hni : ¬ (65536 : Int) < (n : Int) := by omega
      by_cases hl : s.size < k + n
      · have hli : (s.size : Int) - (k : Int) < (n : Int) := by omega
        have hfin : Hid (getT (toL s) = ([], 0, 12)) := by show _ = _; rw [HD.out, if_neg (by simp), if_neg hn, if_pos hl]
        clear HD
        go_wp2
        go_ret3
        exact HR.out _ hfin.out _ _ ⟨rfl, rfl⟩
      · have hli : ¬ (s.size : Int) - (k : Int) < (n : Int) := by omega
        have hfin : Hid (getT (toL s) = (((toL s).drop k).take n, k + n, 0)) := by show _ = _; rw [HD.out, if_neg (by simp), if_neg hn, if_neg hl]
        have HX := Lib.hid (extract_ofL s k n)
        clear HD
        go_wp2
        go_ret3
        exact HR.out _ hfin.out _ _ ⟨by rw [← HX.out]; rfl, rfl⟩
  · have hne : (e != 0) = true := by rw [bne_iff_ne]; exact he
    have hfin : Hid (getT (toL s) = ([], 0, e)) := by show _ = _; rw [HD.out, if_pos he]
    clear HD he
    go_wp2
    go_ret3
    exact HR.out _ hfin.out _ _ ⟨rfl, rfl⟩
end Go.Proofs.YtmdhlkkekidknaaGreatDoor

namespace Go.Proofs.YtmdhlkkekidknaaGreatDoor
open Go.RowKit

theorem Bk.two {w : World} {b : Nat} {t : TypeId} {x y : Value} (h : Bk w b t #[x, y]) : w.cell? ⟨b, 0, none⟩ = some x ∧ w.cell? ⟨b, 1, none⟩ = some y ∧ w.frozen? ⟨b, 0, none⟩ = false ∧ w.frozen? ⟨b, 1, none⟩ = false := by
  have h0 := h.cell 0; have h1 := h.cell 1
  simp at h0 h1
  exact ⟨h0, h1, h.free 0, h.free 1⟩
theorem extract_app (x r : Bytes) : (ofL (x ++ r)).extract x.length (ofL (x ++ r)).size = ofL r := by
  apply toL_inj
  show ((ofL (x ++ r)).extract x.length (ofL (x ++ r)).size).data.toList = r
  have h : (ofL (x ++ r)).data.toList = x ++ r := rfl
  rw [ByteArray.data_extract, Array.toList_extract, List.extract_eq_take_drop, h, List.drop_left, List.take_of_length_le]
  rw [size_ofL, List.length_append]; omega
def Rdr (w : World) (b : Nat) (r : Bytes) : Prop := Bk w b 180 #[.string (ofL r), .bool false]
def RdE (v : Value) (b : Nat) (r : Bytes) (w : World) (e : Ending) (w' : World) : Prop := e = .returned v ∧ Rdr w' b r ∧ Gb (fun g => g = b) w w'

set_option maxRecDepth 100000 in
set_option maxHeartbeats 1000000 in
theorem onumber_any (b k : Nat) (r : Bytes) (w : World) (hk : Rdr w b (encN k ++ r)) (hm : k ≤ 1099511627776) (hl : (encN k ++ r).length ≤ 1000000) :
    Calls Tryz.prog 156 #[.pointer (some ⟨b, 0, none⟩)] w (RdE (.int .i64 k) b r w) := by
  unfold Rdr at hk
  have HX := Lib.hid (extract_app (encN k) r)
  have hms : (encN k).length ≤ (encN k ++ r).length := by rw [List.length_append]; omega
  obtain ⟨s, hs⟩ : ∃ s, ofL (encN k ++ r) = s := ⟨_, rfl⟩
  rw [hs] at hk HX
  have hsz : s.size = (encN k ++ r).length := by rw [← hs]; rfl
  have HG := Lib.hid (getInt_any s w)
  rw [show getI (toL s) = (k, (encN k).length, 0) by rw [← hs, toL_ofL]; exact getI_enc hm r] at HG
  rw [← hsz] at hms
  obtain ⟨m, hme⟩ : ∃ m, (encN k).length = m := ⟨_, rfl⟩
  rw [hme] at HX HG hms
  have hmi : (m : Int) ≤ (s.size : Int) := by omega
  have hsm : (s.size : Int) ≤ 1000000 := by omega
  have HK := Lib.hid hk
  obtain ⟨x0, x1, f0, f1⟩ := hk.two
  clear hk hs hsz hme hms
  go_enter Tryz.func156, Tryz.ntmps156
  go_wp2_with fail
  refine HG.out.mono ?_
  rintro e w' ⟨rfl, rfl⟩
  go_wp2_with fail
  go_ret
  refine ⟨rfl, ?_, gb_set10 _ _ _ _⟩
  show Bk _ _ _ #[.string (ofL r), .bool false]
  rw [← HX.out]
  exact bk_set10 HK.out _ _
set_option maxRecDepth 100000 in
set_option maxHeartbeats 1000000 in
theorem ostring_any (b : Nat) (x : ByteArray) (r : Bytes) (w : World) (hk : Rdr w b (encT (toL x) ++ r)) (hm : x.size ≤ 65536) (hl : (encT (toL x) ++ r).length ≤ 1000000) :
    Calls Tryz.prog 157 #[.pointer (some ⟨b, 0, none⟩)] w (RdE (.string x) b r w) := by
  unfold Rdr at hk
  have HX := Lib.hid (extract_app (encT (toL x)) r)
  have hms : (encT (toL x)).length ≤ (encT (toL x) ++ r).length := by rw [List.length_append]; omega
  obtain ⟨s, hs⟩ : ∃ s, ofL (encT (toL x) ++ r) = s := ⟨_, rfl⟩
  rw [hs] at hk HX
  have hsz : s.size = (encT (toL x) ++ r).length := by rw [← hs]; rfl
  have HG := Lib.hid (getText_any s (by unfold maxLen; omega) w)
  rw [show getT (toL s) = (toL x, (encT (toL x)).length, 0) by rw [← hs, toL_ofL]; exact getT_enc (by rw [← size_toL]; exact hm) r] at HG
  rw [← hsz] at hms
  obtain ⟨m, hme⟩ : ∃ m, (encT (toL x)).length = m := ⟨_, rfl⟩
  rw [hme] at HX HG hms
  have hmi : (m : Int) ≤ (s.size : Int) := by omega
  have hsm : (s.size : Int) ≤ 1000000 := by omega
  have HK := Lib.hid hk
  obtain ⟨x0, x1, f0, f1⟩ := hk.two
  clear hk hs hsz hme hms
  unfold RetT at HG
  simp only [ofL_toL] at HG
  go_enter Tryz.func157, Tryz.ntmps157
  go_wp2_with fail
  refine HG.out.mono ?_
  rintro e w' ⟨rfl, rfl⟩
  go_wp2_with fail
  go_ret
  refine ⟨rfl, ?_, gb_set10 _ _ _ _⟩
  show Bk _ _ _ #[.string (ofL r), .bool false]
  rw [← HX.out]
  exact bk_set10 HK.out _ _
set_option maxRecDepth 100000 in
set_option maxHeartbeats 2000000 in
theorem odigest_any (b : Nat) (d : Dig) (r : Bytes) (w : World) (hk : Rdr w b (digB d ++ r)) (hd : WfD d) (hl : (digB d ++ r).length ≤ 1000000) :
    Calls Tryz.prog 160 #[.pointer (some ⟨b, 0, none⟩)] w (RdE (digV d) b r w) := by
  unfold Rdr at hk
  have HX := Lib.hid (extract_app (digB d) r)
  rw [digB_len] at HX
  have h16 : 16 ≤ (digB d ++ r).length := by rw [List.length_append, digB_len]; omega
  obtain ⟨s, hs⟩ : ∃ s, ofL (digB d ++ r) = s := ⟨_, rfl⟩
  rw [hs] at hk HX
  have hsz : s.size = (digB d ++ r).length := by rw [← hs]; rfl
  have HD : Hid (dg (toL s) = d) := by show _ = _; rw [← hs, toL_ofL]; exact dg_digB hd r
  rw [← hsz] at h16 hl
  have h16i : ¬ (s.size : Int) < 16 := by omega
  have h16j : (16 : Int) ≤ (s.size : Int) := by omega
  have HE := Lib.hid (w_end (toL s))
  have hbw := hk.lt
  obtain ⟨W0, hW0⟩ : ∃ W0, (w.alloc (.cells #[.int .u64 0, .int .u64 0] 30)).alloc (.cells #[.int .u64 0, .int .u64 0] 30) = W0 := ⟨_, rfl⟩
  have HK0 : Hid (Bk W0 w.heap.size 30 #[.int .u64 0, .int .u64 0]) := by rw [← hW0]; exact (Bk.new w _ _).alloc _
  have HK1 : Hid (Bk W0 (w.heap.size + 1) 30 #[.int .u64 0, .int .u64 0]) := by
    rw [← hW0]
    have := Bk.new (w.alloc (.cells #[.int .u64 0, .int .u64 0] 30)) 30 #[.int .u64 0, .int .u64 0]
    rwa [World.size_alloc] at this
  have HB : Hid (Below w.heap.size w W0) := by rw [← hW0]; exact ((Below.refl _ w).alloc (Nat.le_refl _) _).alloc (by simp) _
  have HR := Lib.hid hk
  obtain ⟨x0, x1, _, _⟩ := (hk.below HB.out hbw).two
  clear hk hs hsz
  go_enter Tryz.func160, Tryz.ntmps160
  go_wp2_with fail
  clear hW0
  go_loopw [15] (fun i wr => ∃ k : Nat, k ≤ 16 ∧ i = .int .i64 k ∧ Hid (Bk wr w.heap.size 30 #[.int .u64 0, .int .u64 0]) ∧ Hid (Bk wr (w.heap.size + 1) 30 #[.int .u64 (wd1 (toL s) k), .int .u64 (wd2 (toL s) k)]) ∧ Hid (Below w.heap.size w wr)) (fun i _ => 16 - (intOf i).toNat)
  case atStart => exact ⟨0, by omega, rfl, HK0.out, HK1.out, HB.out⟩
  case round =>
    obtain ⟨k, hk, rfl, J0, J1, hB⟩ := hrel
    clear x0 x1
    obtain ⟨x0, x1, xf, _⟩ := (HR.out.below hB.out hbw).two
    by_cases hlt : k < 16
    · have hsz : k < s.size := by omega
      have hd : s[k].toNat < 256 := s[k].toNat_lt
      have hki : (k : Int) < 16 := by omega
      by_cases h8 : k < 8
      · have hx := wd1_lt (l := toL s) h8
        obtain ⟨e1, e2⟩ := wd1_step (byte_get hsz) h8
        have HE1 := Lib.hid e1; have HE2 := Lib.hid e2
        have y0 := J1.out.cell 0; have y1 := J1.out.cell 1; have f0 := J1.out.free 0
        simp at y0 y1
        clear e1 e2 HX HD
        have hq : (k : Int) / 8 = 0 := by omega
        generalize wd1 (toL s) k = x at *
        generalize wd2 (toL s) k = y at *
        have hor := or_join (x := x) (y := s[k].toNat) (by omega) (by omega)
        go_wp2_with fail
        go_region
        go_wp2_with fail
        go_roundw
        case rel => exact ⟨k + 1, by omega, by go_num, J0.out.far (p := ⟨w.heap.size + 1, 0, none⟩) (by simp) _, by show Bk _ _ _ _; rw [HE1.out, HE2.out]; exact J1.out.set 0 _, (hB.out.setCell (p := ⟨w.heap.size + 1, 0, none⟩) (by simp) _).drew⟩
        case measure => simp [intOf]; omega
      · have hx := wd2_lt (l := toL s) hlt
        obtain ⟨e1, e2⟩ := wd2_step (byte_get hsz) (by omega)
        have HE1 := Lib.hid e1; have HE2 := Lib.hid e2
        have y0 := J1.out.cell 0; have y1 := J1.out.cell 1; have f1 := J1.out.free 1
        simp at y0 y1
        clear e1 e2 HX HD
        have hq : (k : Int) / 8 = 1 := by omega
        generalize wd1 (toL s) k = x at *
        generalize wd2 (toL s) k = y at *
        have hor := or_join (x := y) (y := s[k].toNat) (by omega) (by omega)
        go_wp2_with fail
        go_region
        go_wp2_with fail
        go_roundw
        case rel => exact ⟨k + 1, by omega, by go_num, J0.out.far (p := ⟨w.heap.size + 1, 1, none⟩) (by simp) _, by show Bk _ _ _ _; rw [HE1.out, HE2.out]; exact J1.out.set 1 _, (hB.out.setCell (p := ⟨w.heap.size + 1, 1, none⟩) (by simp) _).drew⟩
        case measure => simp [intOf]; omega
    · have hke : Hid (k = 16) := by show _ = _; omega
      have hki : ¬ (k : Int) < 16 := by omega
      have HX2 : Hid (d = ((wd1 (toL s) k : Int), (wd2 (toL s) k : Int))) := by show _ = _; rw [← HD.out, hke.out]; exact HE.out
      have HRr := Lib.hid (HR.out.below hB.out hbw)
      obtain ⟨y0, y1, _, _⟩ := J1.out.two
      obtain ⟨z0, z1, f0, f1⟩ := J0.out.two
      generalize wd1 (toL s) k = x at *
      generalize wd2 (toL s) k = y at *
      clear hlt HD
      have hne1 : b ≠ w.heap.size := by omega
      have hne2 : b ≠ w.heap.size + 1 := by omega
      go_wp2_with fail
      refine bodyPost_ret (res_cellD Tryz.results160 rfl ((J0.out.far (p := ⟨b, 0, none⟩) hne1.symm _).set2 _ _)) rfl ⟨by rw [HX2.out]; rfl, ?_, ?_⟩
      · show Bk _ _ _ #[.string (ofL r), .bool false]
        rw [← HX.out]
        have := (((HRr.out.set 0 (.string (s.extract 16 s.size))).far (p := ⟨w.heap.size, 0, none⟩) hne1 (.int .u64 x)).far (p := ⟨w.heap.size, 1, none⟩) hne1 (.int .u64 y))
        simpa using this
      · exact ((((Gb.of_below hB.out).trans (Gb.set (p := fun g => g = b) (x := b) rfl 0 _)).after (Nat.le_refl _) 0 _).after (Nat.le_refl _) 1 _)
end Go.Proofs.YtmdhlkkekidknaaGreatDoor

namespace Go.Proofs.YtmdhlkkekidknaaGreatDoor
open Go.RowKit

def Apd (w : World) (base : Nat) (e : TypeId) (size : Nat) (A : Option Addr) (n c : Nat) (xs : List Value) : Prop :=
  w.ownsRow base e size (.slice A n c) n xs ∨ (n = 0 ∧ c = 0 ∧ xs = [])

section
variable {P : Program} {w w' : World} {base size n c : Nat} {e : TypeId} {A : Option Addr} {xs : List Value}
theorem Apd.sl (h : Apd w base e size A n c xs) : Sl w w.heap.size size A n xs := by
  rcases h with h | ⟨rfl, rfl, rfl⟩
  · exact Sl.of_own h
  · exact Sl.nil _ _ _ _
theorem Apd.below (h : Apd w base e size A n c xs) (hb : Below w.heap.size w w') : Apd w' base e size A n c xs := by
  rcases h with h | h
  · exact .inl (h.kept (row := none) ⟨hb.os, hb.tape, hb.output, hb.size, fun k hk _ => hb.block k hk⟩ (by
      cases hv : (Value.slice A n c).ownBlock with
      | none => exact .inl rfl
      | some k => exact .inr (by simp)))
  · exact .inr h
theorem Apd.setCell (h : Apd w base e size A n c xs) {a : Addr} (ha : a.block < base) (u : Value) : Apd (w.setCell a u) base e size A n c xs := by
  rcases h with h | h
  · exact .inl (ownsRow_setCell_below h ha u)
  · exact .inr h
theorem below_of_none (hg : w.grownBy w' none) : Below w.heap.size w w' := ⟨hg.os, hg.tape, hg.output, hg.size, fun k hk => hg.block k hk (by simp)⟩

theorem run_append_empty (t ty : TypeId) (i : TypeInfo) (z : Value) (bytes : Nat) (ht : P.underlying t = some (.slice e)) (hi : P.info? e = some i) (hz : i.zero = some z)
    (hsize : i.size = size) (hby : i.bytes = bytes) (hzs : z.cells.size = size) (hsz : 0 < size)
    {B : Nat} {A' : Option Addr} {m c' : Nat} {ys : List Value} (hsl : Sl w B size A' m ys) (h1 : ∀ u ∈ ys, u.oneCell' = true)
    (h63 : m ≤ maxLen) (hbytes : m * bytes ≤ 140737488355328) (hbase : base ≤ w.heap.size) (A : Option Addr) :
    ∃ A2 c2 w', (Builtin.append_ #[t, t] ty #[.slice A 0 0, .slice A' m c']).run P w = .ok (.slice A2 m c2) w' ∧ Apd w' base e size A2 m c2 ys ∧ Below w.heap.size w w' ∧ m ≤ c2 ∧ c2 ≤ maxLen := by
  rcases Nat.eq_zero_or_pos m with h | hm
  · subst h
    have hy : ys = [] := by
      have := hsl.1; rw [Nat.zero_mul] at this; exact List.length_eq_zero_iff.1 this
    subst hy
    refine ⟨A, 0, w, ?_, .inr ⟨rfl, rfl, rfl⟩, Below.refl _ _, Nat.le_refl _, Nat.zero_le _⟩
    cases A <;> cases A' <;> simp [Builtin.append_, run_underlying ht, sizeOf, typeInfo, hi, Builtin.lenOf, Builtin.firstCells, loadCells, loadCellsFrom, storeCells]
  · -- as onto nil
    have hrun : (Builtin.append_ #[t, t] ty #[.slice A 0 0, .slice A' m c']).run P w = (Builtin.append_ #[t, t] ty #[.slice none 0 0, .slice A' m c']).run P w := by
      obtain ⟨b, off, rfl, _, _⟩ := hsl.2 hm
      cases A with
      | none => rfl
      | some ad =>
        have hroom : ¬ m = 0 := by omega
        have hfit : ¬ 281474976710656 < Builtin.nextslicecap m 0 * i.bytes := by
          have := growslice_fits (old := 0) (need := m) (bytes := bytes) (by omega) hbytes
          rw [hby]; omega
        simp [Builtin.append_, run_underlying ht, sizeOf, typeInfo, hi, Builtin.lenOf, Builtin.firstCells, loadCells, loadCellsFrom, hroom, hfit]
    obtain ⟨A2, c2, w2, hr, ho, hg, hc1, hc2⟩ := run_append_sl (P := P) (base := base) (v := .slice none 0 0) (n := 0) (xs := []) t ty i z bytes ht hi hz hsize hby hzs hsz (World.ownsRow_nil w base e size) (c := c') hsl h1 (by omega) (by rw [Nat.zero_add]; exact hbytes) hbase
    simp only [Nat.zero_add, List.nil_append] at hr ho hc1
    exact ⟨A2, c2, w2, hrun.trans hr, .inl ho, below_of_none hg, hc1, hc2⟩

def OthersKept (e : TypeId) (w w' : World) : Prop := ∀ (base size n : Nat) (e' : TypeId) (v : Value) (xs : List Value), e' ≠ e → w.ownsRow base e' size v n xs → w'.ownsRow base e' size v n xs
theorem run_append_apd (t ty : TypeId) (i : TypeInfo) (z : Value) (bytes : Nat) (ht : P.underlying t = some (.slice e)) (hi : P.info? e = some i) (hz : i.zero = some z)
    (hsize : i.size = size) (hby : i.bytes = bytes) (hzs : z.cells.size = size) (hsz : 0 < size) (ha : Apd w base e size A n c xs)
    {B : Nat} {A' : Option Addr} {m c' : Nat} {ys : List Value} (hsl : Sl w B size A' m ys) (h1 : ∀ u ∈ ys, u.oneCell' = true)
    (h63 : n + m ≤ maxLen) (hbytes : (n + m) * bytes ≤ 140737488355328) (hbase : base ≤ w.heap.size) :
    ∃ A2 c2 w', (Builtin.append_ #[t, t] ty #[.slice A n c, .slice A' m c']).run P w = .ok (.slice A2 (n + m) c2) w' ∧ Apd w' base e size A2 (n + m) c2 (xs ++ ys) ∧ Below base w w' ∧ n + m ≤ c2 ∧ c2 ≤ maxLen ∧ OthersKept e w w' := by
  rcases ha with h | ⟨rfl, rfl, rfl⟩
  · obtain ⟨A2, c2, w2, hr, ho, hg, hc1, hc2⟩ := run_append_sl (P := P) t ty i z bytes ht hi hz hsize hby hzs hsz h (c := c') hsl h1 h63 hbytes hbase
    exact ⟨A2, c2, w2, hr, .inl ho, (Below.refl _ w).grown hg hbase (fun k hk => ownBlock_ge h k hk), hc1, hc2, fun _ _ _ _ _ _ hne h' => h'.kept hg (ownsRow_apart h h' hne)⟩
  · obtain ⟨A2, c2, w2, hr, ho, hg, hc1, hc2⟩ := run_append_empty (P := P) (base := base) t ty i z bytes ht hi hz hsize hby hzs hsz (c' := c') hsl h1 (by omega) (by rw [Nat.zero_add] at hbytes; exact hbytes) hbase A
    rw [Nat.zero_add, List.nil_append]
    exact ⟨A2, c2, w2, hr, ho, hg.mono hbase, hc1, hc2, fun _ _ _ _ v _ _ h' => h'.kept (row := none) ⟨hg.os, hg.tape, hg.output, hg.size, fun k hk _ => hg.block k hk⟩ (by cases hv : v.ownBlock with | none => exact .inl rfl | some k => exact .inr (by simp))⟩

theorem wpList_append_apd (w : World) {ops : Array Oper} {rest : List Oper} {o : Oper} {a : Act} {Q : Exit → Act → World → Prop} (hgd : o.guard = none) (s x : Operand) (t : TypeId)
    (ho : o.op = .call { callee := .builtin .append, args := #[s, x], argTypes := #[t, t] })
    (e : TypeId) (i : TypeInfo) (z : Value) (bytes : Nat) (ht : P.underlying t = some (.slice e)) (hi : P.info? e = some i) (hz : i.zero = some z)
    (hsize : i.size = size) (hby : i.bytes = bytes) (hzs : z.cells.size = size) (hsz : 0 < size)
    (A : Option Addr) (n c : Nat) (xs : List Value) (hs : a.eval s = .slice A n c) (hown : Apd w base e size A n c xs)
    (B : Nat) (A' : Option Addr) (m c' : Nat) (ys : List Value) (hx : a.eval x = .slice A' m c') (hsl : Sl w B size A' m ys) (h1 : ∀ u ∈ ys, u.oneCell' = true)
    (h63 : n + m ≤ maxLen) (hbytes : (n + m) * bytes ≤ 140737488355328) (hbase : base ≤ w.heap.size)
    (h : ∀ A2 c2 w', Apd w' base e size A2 (n + m) c2 (xs ++ ys) → Below base w w' → n + m ≤ c2 → c2 ≤ maxLen → OthersKept e w w' → wpList P ops Q rest (a.put o.dst (.slice A2 (n + m) c2)) w') : wpList P ops Q (o :: rest) a w := by
  refine wpList_plain hgd fun K hK => ?_
  obtain ⟨A2, c2, w', hr, ho', hg, hc1, hc2, hok⟩ := run_append_apd (P := P) t o.type i z bytes ht hi hz hsize hby hzs hsz hown (c' := c') hsl h1 h63 hbytes hbase
  unfold Oper.wp
  simp [execOp, ho, resolve, invoke, builtin, hs, hx, hr, Result.andThen]
  exact hK _ _ (h A2 c2 w' ho' hg hc1 hc2 hok)
end
end Go.Proofs.YtmdhlkkekidknaaGreatDoor
