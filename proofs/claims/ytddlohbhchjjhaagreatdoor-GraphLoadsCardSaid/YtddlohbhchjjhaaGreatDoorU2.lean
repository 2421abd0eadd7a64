/-
  Lemmas: strings.SplitSeq at a slash. Labels: lexer.Word and lexer.Label. buildfile.Check on one rule with elements of Visible alone. Lists of files in memory (for seats without cordwoodref41's functions on files: there XSame has these names). Graphs of labels, in plain Lean: what can be reached in one or more steps, breadth first search as the program makes it, and least numbers of steps. No program in sight. Targets of a graph, in plain Lean: the first target with a label, the labels on which one depends, and how targets lie in memory. The arguments that come in (law39): files, strings, targets, graphs, read off the form's own reading. What the rows share: an argument that reads as before, the last step, the witness's world. DERIVED: THE SHELF's CONTRACTS AT THIS DUMP, IN PLAIN WORDS (tools/lay-plain.mjs out of 'TryzSfl.lean', which tools/lay-shelf.mjs wrote): THE SAME DECLARATIONS UNDER THE SAME NAMES: 'import', 'namespace', 'open', 'def', 'theorem' AND NOTHING ELSE: no command of the shelf's: FOR A HAND-IN. Each laying: the table of numbers ('.._ren') and one theorem, a field a fact of the dump's own or the kernel's comparison; each contract: ONE APPLICATION. buildfile.Check on one rule. Maps with strings as keys and whatever values as elements (structs with slices, slices that are appended to): what a key has, as a plain function. Over any program.
-/
import Derived.Lib.IndexLaws
import Derived.Laws.RangeAny
import Derived.ProofKit
import Derived.OpenShut
import Derived.Deep.Slices
import Derived.Lib.SmallJoins
import Derived.Test.YtddlohbhchjjhaaGreatDoorCards
import Derived.Test.YtddlohbhchjjhaaGreatDoorTie
import Derived.Deep.DeepHandedRow
import Derived.Lib.LaidTab
import Derived.Lib.LaidIn
import Derived.Shelf.SlSortCmp.WholeK
import Derived.Shelf.SlSortCmp.NoneTotal
import Derived.Ground.SlsfProg
import Derived.Ground.NamesProg
import Derived.Test.YtddlohbhchjjhaaGreatDoorProg
import Derived.Maps.RangeWalk
import Derived.Test.YtddlohbhchjjhaaGreatDoorU1

namespace Go.Proofs.YtddlohbhchjjhaaGreatDoor
open Go.RowKit Go.Shelf
attribute [local go_sem] Oper.semAt_some

theorem size_len (s : ByteArray) : s.size = s.data.toList.length := (Array.length_toList).symm
theorem get_data (s : ByteArray) (k : Nat) (h : k < s.size) : s.data.toList[k]? = some s[k] := by
  rw [List.getElem?_eq_getElem (by rw [← size_len]; exact h)]; rfl
theorem extract_list (s : ByteArray) (k i : Nat) : (s.extract k i).data.toList = (s.data.toList.drop k).take (i - k) := by
  simp [ByteArray.data_extract]
/-- The parts of a list of bytes between slashes. -/
def splitS : List UInt8 → List (List UInt8)
  | [] => [[]]
  | c :: r => if c = 47 then [] :: splitS r else match splitS r with
    | [] => [[c]]
    | h :: t => (c :: h) :: t
theorem splitS_ne (l : List UInt8) : splitS l ≠ [] := by
  cases l with
  | nil => simp [splitS]
  | cons c r => unfold splitS; split; simp; split <;> simp
theorem splitS_last (seg : List UInt8) (h : ∀ c ∈ seg, c ≠ 47) : splitS seg = [seg] := by
  induction seg with
  | nil => rfl
  | cons c r ih =>
    unfold splitS
    rw [if_neg (h c (by simp)), ih (fun d hd => h d (by simp [hd]))]
theorem splitS_seg (seg r : List UInt8) (h : ∀ c ∈ seg, c ≠ 47) : splitS (seg ++ 47 :: r) = seg :: splitS r := by
  induction seg with
  | nil => rw [List.nil_append, splitS, if_pos rfl]
  | cons c t ih =>
    rw [List.cons_append, splitS, if_neg (h c (by simp)), ih (fun d hd => h d (by simp [hd]))]

theorem splitS_len : ∀ (l p : List UInt8), p ∈ splitS l → p.length ≤ l.length
  | [], p, h => by simp [splitS] at h; simp [h]
  | c :: r, p, h => by
    unfold splitS at h
    split at h
    · rcases List.mem_cons.1 h with e | h
      · simp [e]
      · have := splitS_len r p h; simp; omega
    · split at h
      · simp at h; simp [h]
      · rename_i h2 t e
        rcases List.mem_cons.1 h with e2 | h3
        · have := splitS_len r h2 (by rw [e]; simp)
          rw [e2]; simp; omega
        · have := splitS_len r p (by rw [e]; simp [h3])
          simp; omega
/-- The three blocks from lo on are as they were. -/
def KeepS (lo : Nat) (A B : World) : Prop := ∀ k, lo ≤ k → k < lo + 3 → B.heap[k]? = A.heap[k]?
theorem keepS_t {lo : Nat} {A B C : World} (h : KeepS lo A B) (k : KeepS lo B C) : KeepS lo A C := fun i h1 h2 => (k i h1 h2).trans (h i h1 h2)
theorem keepS_put {lo m : Nat} (h : lo + 3 ≤ m) (W : World) (l : Nat) (o : Obj) (hl : m ≤ l) : KeepS lo W (W.putObj l o) := fun k _ h2 => World.putObj_heap_other (by omega)
/-- The iterator's own step: it stores the rest of the string. -/
def StS (lo : Nat) (A B : World) : Prop := ∃ v, B = A.setCell ⟨lo, 0, none⟩ (.string v)
theorem stS_others {lo : Nat} (A B : World) (h : StS lo A B) : KeepsOthers A B := by
  obtain ⟨v, rfl⟩ := h
  exact KeepsOthers.setCell _ _ _

def lenAt (lo : Nat) (w : World) : Nat := match w.cell? ⟨lo, 0, none⟩ with
  | some (.string s) => s.size
  | _ => 0
theorem lenAt_eq {lo : Nat} {w : World} {s : ByteArray} (h : w.heap[lo]? = some (.cells #[.string s] 9 (0, 0))) : lenAt lo w = s.size := by
  have := cell_of_one h
  simp [lenAt, this]

theorem split_at {l : List UInt8} {i : Nat} (h : Lib.indexByte l 47 = i) : splitS l = l.take i :: splitS (l.drop (i + 1)) := by
  obtain ⟨h1, h2⟩ := Lib.indexByte_some h
  have hi := (List.getElem?_eq_some_iff.1 h1).1
  have e : l = l.take i ++ 47 :: l.drop (i + 1) := by
    conv => lhs; rw [← List.take_append_drop i l]
    congr 1
    rw [List.drop_eq_getElem_cons hi]
    congr 1
    exact (List.getElem?_eq_some_iff.1 h1).2
  conv => lhs; rw [e]
  refine splitS_seg _ _ fun c hc e => ?_
  subst e
  obtain ⟨j, hj, hv⟩ := List.getElem_of_mem hc
  have hj' : j < i := by simp at hj; omega
  apply h2 j hj'
  rw [← hv, List.getElem_take]
  exact List.getElem?_eq_getElem _
theorem split_none {l : List UInt8} (h : Lib.indexByte l 47 = -1) : splitS l = [l] := by
  refine splitS_last _ fun c hc e => ?_
  subst e
  obtain ⟨j, hj, hv⟩ := List.getElem_of_mem hc
  exact Lib.indexByte_none h j (by rw [← hv]; exact List.getElem?_eq_getElem _)


set_option maxRecDepth 100000 in
set_option maxHeartbeats 1000000 in
theorem split1_st (n lo : Nat) (hn : 1 ≤ n) (s : ByteArray) (w : World) (hs : s.size ≤ 9223372036854775807) (hlo : lo + 3 ≤ w.heap.size)
    (h0 : w.heap[lo]? = some (.cells #[.string s] 9 (0, 0))) (h1 : w.heap[lo + 1]? = some (.cells #[.string ⟨#[47]⟩] 9 (0, 0))) (h2 : w.heap[lo + 2]? = some (.cells #[.int .i64 0] 3 (0, 0))) :
    SeqP Fence.wide n Tryz.prog 213 #[.pointer (some ⟨lo + 1, 0, none⟩), .pointer (some ⟨lo, 0, none⟩), .pointer (some ⟨lo + 2, 0, none⟩)] (fun x : ByteArray => #[.string x]) (KeepS lo) (StS lo)
      (fun pre => ∃ r, pre.map bl ++ r = splitS (bl s)) (fun xs => xs.map bl = splitS (bl s)) (fun pre => ∃ r, pre.map bl ++ r = splitS (bl s)) w := fun l J Jx W hW hJ hY hJ0 => by
  have g0 : W.heap[lo]? = some (.cells #[.string s] 9 (0, 0)) := (hW.block lo (by omega)).trans h0
  have g1 : W.heap[lo + 1]? = some (.cells #[.string ⟨#[47]⟩] 9 (0, 0)) := (hW.block (lo + 1) (by omega)).trans h1
  have g2 : W.heap[lo + 2]? = some (.cells #[.int .i64 0] 3 (0, 0)) := (hW.block (lo + 2) (by omega)).trans h2
  clear hW h0 h1 h2
  have c1 := cell_of_one g1
  have G0 := Lib.hid g0; have G1 := Lib.hid g1; have G2 := Lib.hid g2; have HJ := Lib.hid hJ; have HY := Lib.hid hY; have HJ0 := Lib.hid hJ0
  clear g0 g1 g2 hJ hY hJ0
  refine callsIn_of_wp Tryz.func213 rfl trivial ?_ rfl
  simp only [Tryz.ntmps213, List.size_toArray, List.length_cons, List.length_nil, Nat.reduceAdd, Nat.reduceSub, Array.replicate_succ, Array.replicate_zero, List.push_toArray, List.append_toArray, List.nil_append, List.cons_append]
  gi_wp2_with fail
  gi_loopw [7, 8] (fun _ _ wr => ∃ (pre : List ByteArray) (cur : ByteArray), cur.size ≤ 9223372036854775807 ∧ Hid (wr.heap[lo]? = some (.cells #[.string cur] 9 (0, 0))) ∧ Hid (wr.heap[lo + 1]? = some (.cells #[.string ⟨#[47]⟩] 9 (0, 0))) ∧ Hid (wr.heap[lo + 2]? = some (.cells #[.int .i64 0] 3 (0, 0))) ∧ Hid (pre.map bl ++ splitS (bl cur) = splitS (bl s)) ∧ J pre wr)
    (fun _ _ wr => lenAt lo wr)
  case atStart => exact ⟨[], s, hs, G0, G1, G2, rfl, HJ0.out⟩
  case round =>
    obtain ⟨pre, cur, hcs, k0, k1, k2, hsp, hj⟩ := hrel
    have d0 := cell_of_one k0.out; have d1 := cell_of_one k1.out; have d2 := cell_of_one k2.out
    have f0 := free_of_one k0.out
    have HJR := Lib.hid hj
    clear hj
    have hf86 : Fence.wide.fn 215 := trivial
    by_cases hi : Lib.indexByte cur.data.toList 47 = -1
    · have HI := Lib.hid hi
      have HE := Lib.hid (split_none hi)
      clear hi
      obtain ⟨fn, tmps, assign, body, hy, hR⟩ := HY.out pre cur wr ⟨[], by rw [List.map_append, ← hsp.out, List.append_nil]; show _ = _ ++ splitS cur.data.toList; rw [HE.out]; rfl⟩ HJR.out
      have HR := Lib.hid hR
      clear hR
      gi_wp2_with (gi_at_call 215; refine (callsIn_wide.2 (Tryz.strings_Index_one _ _ _)).mono ?_; rintro e w' ⟨rfl, rfl⟩; rw [HI.out])
      refine HR.out.mono ?_
      rintro e W3 (⟨rfl, hJ3, _⟩ | ⟨rfl, hJx3⟩)
      · gi_wp2
        go_end0
        exact ⟨⟨_, rfl⟩, .inl ⟨pre ++ [cur], by rw [List.map_append, ← hsp.out]; show _ = _ ++ splitS cur.data.toList; rw [HE.out]; rfl, hJ3⟩⟩
      · gi_wp2
        go_end0
        exact ⟨⟨_, rfl⟩, .inr ⟨pre ++ [cur], ⟨[], by rw [List.map_append, ← hsp.out, List.append_nil]; show _ = _ ++ splitS cur.data.toList; rw [HE.out]; rfl⟩, hJx3⟩⟩
    · obtain ⟨i, hi'⟩ : ∃ i : Nat, Lib.indexByte cur.data.toList 47 = i := ⟨(Lib.indexByte cur.data.toList 47).toNat, by have := Lib.indexByte_ge cur.data.toList 47; omega⟩
      have hil : i < cur.size := by
        rw [size_len]; exact (List.getElem?_eq_some_iff.1 (Lib.indexByte_some hi').1).1
      have HI := Lib.hid hi'
      have HE := Lib.hid (split_at hi')
      clear hi hi'
      obtain ⟨fn, tmps, assign, body, hy, hR⟩ := HY.out pre (cur.extract 0 i) wr ⟨splitS (cur.data.toList.drop (i + 1)), by
          rw [List.map_append, ← hsp.out, List.append_assoc]; show _ = _ ++ splitS cur.data.toList; rw [HE.out]; simp [bl]⟩ HJR.out
      have HR := Lib.hid hR
      clear hR
      gi_wp2_with (gi_at_call 215; refine (callsIn_wide.2 (Tryz.strings_Index_one _ _ _)).mono ?_; rintro e w' ⟨rfl, rfl⟩; rw [HI.out])
      refine HR.out.mono ?_
      rintro e W3 (⟨rfl, hJ3, hK3⟩ | ⟨rfl, hJx3⟩)
      · have m0 := (hK3 lo (by omega) (by omega)).trans k0.out
        have m1 := (hK3 (lo + 1) (by omega) (by omega)).trans k1.out
        have m2 := (hK3 (lo + 2) (by omega) (by omega)).trans k2.out
        have e0 := cell_of_one m0; have e1 := cell_of_one m1; have q0 := free_of_one m0
        have M0 := Lib.hid m0; have M1 := Lib.hid m1; have M2 := Lib.hid m2
        have HJ3 := Lib.hid hJ3
        clear m0 m1 m2 hJ3 hK3 d0 d1 d2 f0
        gi_wp2
        go_roundw
        case rel =>
          refine ⟨pre ++ [cur.extract 0 i], cur.extract (i + 1) cur.size, by rw [ByteArray.size_extract]; omega, one_setCell M0.out, (Below.heap_setCell _ _ _ _ (by simp)).trans M1.out, (Below.heap_setCell _ _ _ _ (by simp)).trans M2.out, ?_, HJ.out _ _ _ HJ3.out ⟨_, rfl⟩⟩
          show _ = _
          rw [← hsp.out, List.map_append, List.append_assoc]
          show _ = _ ++ splitS cur.data.toList
          rw [HE.out]
          have e2 : bl (cur.extract (i + 1) cur.size) = cur.data.toList.drop (i + 1) := by
            unfold bl; rw [extract_list, List.take_of_length_le (by rw [List.length_drop, ← size_len]; omega)]
          rw [e2]
          simp [bl]
        case measure =>
          rw [lenAt_eq (one_setCell M0.out), lenAt_eq k0.out, ByteArray.size_extract]
          omega
      · gi_wp2
        refine bodyPost_ret (results_none rfl _ _ _) rfl ?_
        exact ⟨⟨_, rfl⟩, .inr ⟨pre ++ [cur.extract 0 i], ⟨splitS (cur.data.toList.drop (i + 1)), by
          rw [List.map_append, ← hsp.out, List.append_assoc]; show _ = _ ++ splitS cur.data.toList; rw [HE.out]; simp [bl]⟩, hJx3⟩⟩

set_option maxHeartbeats 400000 in
theorem splitSeq_any (s : ByteArray) (w : World) :
    Calls Tryz.prog 111 #[.string s, .string ⟨#[47]⟩] w fun e w' => e = .returned (.func (.func 213) #[] #[.pointer (some ⟨w.heap.size + 1, 0, none⟩), .pointer (some ⟨w.heap.size, 0, none⟩), .pointer (some ⟨w.heap.size + 2, 0, none⟩)]) ∧
      w' = ((w.alloc (.cells #[.string s] 9)).alloc (.cells #[.string ⟨#[47]⟩] 9)).alloc (.cells #[.int .i64 0] 3) := by
  go_enter Tryz.func111, Tryz.ntmps111
  go_wp2
  go_ret
  exact ⟨rfl, rfl⟩

end Go.Proofs.YtddlohbhchjjhaaGreatDoor

namespace Go.Proofs.YtddlohbhchjjhaaGreatDoor
open Go.RowKit Go.Shelf
attribute [local go_sem] Oper.semAt_some

def ltrI (c : Int) : Bool := decide (97 ≤ c) && decide (c ≤ 122)
def dgtI (c : Int) : Bool := decide (48 ≤ c) && decide (c ≤ 57)
def ltrB (c : UInt8) : Bool := ltrI (c.toNat : Int)
def dgtB (c : UInt8) : Bool := dgtI (c.toNat : Int)
def okC (k : Nat) (c : UInt8) : Bool := ltrB c || (decide (k ≠ 0) && dgtB c)
/-- the first k bytes may stand where they stand -/
def OkTo (l : List UInt8) (k : Nat) : Prop := ∀ j c, j < k → l[j]? = some c → okC j c = true
def wordL : List UInt8 → Bool
  | [] => false
  | c :: r => ltrB c && r.all (fun x => ltrB x || dgtB x)
theorem wordL_iff (l : List UInt8) : wordL l = true ↔ l ≠ [] ∧ OkTo l l.length := by
  cases l with
  | nil => simp [wordL]
  | cons c r =>
    simp only [wordL, Bool.and_eq_true, List.all_eq_true, ne_eq, reduceCtorEq, not_false_eq_true, true_and]
    constructor
    · rintro ⟨h1, h2⟩ j x hj hx
      cases j with
      | zero => simp at hx; subst hx; simp [okC, h1]
      | succ j =>
        have := h2 x (List.mem_of_getElem? (by simpa using hx))
        simpa [okC] using this
    · intro h
      refine ⟨by have := h 0 c (by simp) rfl; simpa [okC] using this, fun x hx => ?_⟩
      obtain ⟨j, hj, e⟩ := List.getElem_of_mem hx
      have := h (j + 1) x (by simp; omega) (by simp [hj, e])
      simpa [okC] using this
theorem OkTo.step {l : List UInt8} {k : Nat} {c : UInt8} (h : OkTo l k) (hc : l[k]? = some c) (ho : okC k c = true) : OkTo l (k + 1) := fun j x hj hx => by
  by_cases e : j = k
  · subst e; rw [hc] at hx; cases hx; exact ho
  · exact h j x (by omega) hx
theorem word_bad {l : List UInt8} {k : Nat} {c : UInt8} (hc : l[k]? = some c) (ho : okC k c = false) : wordL l = false := by
  cases h : wordL l with
  | false => rfl
  | true =>
    have := ((wordL_iff l).1 h).2 k c (List.getElem?_eq_some_iff.1 hc).1 hc
    rw [ho] at this; cases this
def word24 (s : ByteArray) : Bool := decide (s.size ≤ 24) && wordL (bl s)
def partL (l : List UInt8) : Bool := decide (l.length ≤ 20) && wordL l
def labL (l : List UInt8) : Bool := decide (l.length ≤ 90) && (splitS l).all partL
def labB (s : ByteArray) : Bool := labL (bl s)

set_option maxHeartbeats 400000 in
theorem letter_any (c : Int) (w : World) : Calls Tryz.prog 161 #[.int .i32 c] w fun e w' => e = .returned (.bool (ltrI c)) ∧ w = w' := by
  go_enter Tryz.func161, Tryz.ntmps161
  go_wp2
  all_goals (go_ret; refine ⟨ret_bool ?_, rfl⟩; rw [Bool.eq_iff_iff]; simp [ltrI]; try omega)
set_option maxHeartbeats 400000 in
theorem digit_any (c : Int) (w : World) : Calls Tryz.prog 162 #[.int .i32 c] w fun e w' => e = .returned (.bool (dgtI c)) ∧ w = w' := by
  go_enter Tryz.func162, Tryz.ntmps162
  go_wp2
  all_goals (go_ret; refine ⟨ret_bool ?_, rfl⟩; rw [Bool.eq_iff_iff]; simp [dgtI]; try omega)
theorem high_bad {c : Int} (h : 128 ≤ c) : ltrI c = false ∧ dgtI c = false := by
  constructor
  · simp [ltrI]; intro; omega
  · simp [dgtI]; intro; omega

set_option maxRecDepth 100000 in
set_option maxHeartbeats 2000000 in
theorem word_any (s : ByteArray) (w : World) (hs : s.size ≤ maxLen) :
    Calls Tryz.prog 112 #[.string s] w fun e w' => e = .returned (.bool (word24 s)) ∧ Below w.heap.size w w' := by
  unfold maxLen at hs
  have HL := Lib.hid (size_len s)
  by_cases c0 : s.toList = []
  · have hv : Hid (word24 s = false) := by
      show _ = _
      rw [ByteArray.toList_eq] at c0
      unfold word24 bl; rw [c0]; simp [wordL]
    have c0' : (s.toList == ([] : List UInt8)) = true := by simp [c0]
    clear c0
    go_enter Tryz.func112, Tryz.ntmps112
    go_wp2
    go_ret
    exact ⟨ret_bool hv.out.symm, Below.refl _ _⟩
  have c0' : (s.toList == ([] : List UInt8)) = false := by simp [c0]
  by_cases c1 : 24 < (s.size : Int)
  · have hv : Hid (word24 s = false) := by
      show _ = _
      unfold word24; rw [decide_eq_false (by omega), Bool.false_and]
    clear c0
    go_enter Tryz.func112, Tryz.ntmps112
    go_wp2
    go_ret
    exact ⟨ret_bool hv.out.symm, Below.refl _ _⟩
  have HV : Hid (word24 s = wordL (bl s)) := by
    show _ = _
    unfold word24; rw [decide_eq_true (by omega), Bool.true_and]
  have HN0 : Hid (bl s ≠ []) := by
    rw [ByteArray.toList_eq] at c0; exact c0
  clear c0
  go_enter Tryz.func112, Tryz.ntmps112
  go_wp2
  go_loopw [] (fun w' => ∃ pos : Nat, pos ≤ s.size ∧ w' = w.iter s pos ∧ Hid (OkTo (bl s) pos)) (fun w' => s.size - w'.iterPos w.heap.size)
  case atStart => exact ⟨0, Nat.zero_le _, rfl, fun j c h => absurd h (by omega)⟩
  case round =>
    obtain ⟨pos, hpos, rfl, hO⟩ := hrel
    by_cases hp : pos < s.size
    · have hg := Lib.hid (get_data s pos hp)
      by_cases ha : s[pos].toNat < 128
      · have hnx : ∀ ty, (Instr.next (.pointer (some ⟨w.heap.size, 0, none⟩)) true ty).run Tryz.prog (w.iter s pos) = _ := fun ty => run_next_ascii w s pos ty hp ha
        cases hl : ltrI (s[pos].toNat : Int) with
        | true =>
          have HO2 : Hid (OkTo (bl s) (pos + 1)) := hO.out.step hg.out (by unfold okC ltrB; rw [hl]; rfl)
          have HLI := Lib.hid hl
          clear hl
          go_wp2_with (go_at_call 161; refine (letter_any _ _).mono ?_; rintro e w' ⟨rfl, rfl⟩; rw [HLI.out])
          go_roundw
          case rel => exact ⟨pos + 1, hp, rfl, HO2.out⟩
          case measure => simp; omega
        | false =>
          have HLI := Lib.hid hl
          by_cases h0 : pos = 0
          · subst h0
            have hF : Hid (word24 s = false) := by
              show _ = _
              rw [HV.out]; exact word_bad hg.out (by unfold okC ltrB; rw [hl]; rfl)
            clear hl
            go_wp2_with (go_at_call 161; refine (letter_any _ _).mono ?_; rintro e w' ⟨rfl, rfl⟩; rw [HLI.out])
            go_ret
            exact ⟨ret_bool hF.out.symm, (Below.refl _ w).alloc (Nat.le_refl _) _⟩
          · have h0' : ((pos : Int) == 0) = false := by rw [beq_eq_false_iff_ne]; omega
            cases hd : dgtI (s[pos].toNat : Int) with
            | true =>
              have HO2 : Hid (OkTo (bl s) (pos + 1)) := hO.out.step hg.out (by unfold okC ltrB dgtB; rw [hl, hd]; simp [h0])
              have HDI := Lib.hid hd
              clear hl hd h0
              go_wp2_with (first
                | (go_at_call 161; refine (letter_any _ _).mono ?_; rintro e w' ⟨rfl, rfl⟩; rw [HLI.out])
                | (go_at_call 162; refine (digit_any _ _).mono ?_; rintro e w' ⟨rfl, rfl⟩; rw [HDI.out]))
              go_roundw
              case rel => exact ⟨pos + 1, hp, rfl, HO2.out⟩
              case measure => simp; omega
            | false =>
              have hF : Hid (word24 s = false) := by
                show _ = _
                rw [HV.out]; exact word_bad hg.out (by unfold okC ltrB dgtB; rw [hl, hd]; simp)
              have HDI := Lib.hid hd
              clear hl hd h0
              go_wp2_with (first
                | (go_at_call 161; refine (letter_any _ _).mono ?_; rintro e w' ⟨rfl, rfl⟩; rw [HLI.out])
                | (go_at_call 162; refine (digit_any _ _).mono ?_; rintro e w' ⟨rfl, rfl⟩; rw [HDI.out]))
              go_ret
              exact ⟨ret_bool hF.out.symm, (Below.refl _ w).alloc (Nat.le_refl _) _⟩
      · have hnx : ∀ ty, (Instr.next (.pointer (some ⟨w.heap.size, 0, none⟩)) true ty).run Tryz.prog (w.iter s pos) = _ := fun ty => run_next_any w s pos ty hp
        have hdec := (decode_high s pos hp (by omega)).1
        have hhi := high_bad (c := ((Utf8.decode s pos).1 : Int)) (by omega)
        have hbb := high_bad (c := (s[pos].toNat : Int)) (by omega)
        have hF : Hid (word24 s = false) := by
          show _ = _
          rw [HV.out]; exact word_bad hg.out (by unfold okC ltrB dgtB; rw [hbb.1, hbb.2]; simp)
        have HLI := Lib.hid hhi.1; have HDI := Lib.hid hhi.2
        clear hhi hbb hdec
        by_cases h0 : pos = 0
        · subst h0
          go_wp2_with (go_at_call 161; refine (letter_any _ _).mono ?_; rintro e w' ⟨rfl, rfl⟩; rw [HLI.out])
          go_ret
          exact ⟨ret_bool hF.out.symm, (Below.refl _ w).alloc (Nat.le_refl _) _⟩
        · have h0' : ((pos : Int) == 0) = false := by rw [beq_eq_false_iff_ne]; omega
          clear h0
          go_wp2_with (first
            | (go_at_call 161; refine (letter_any _ _).mono ?_; rintro e w' ⟨rfl, rfl⟩; rw [HLI.out])
            | (go_at_call 162; refine (digit_any _ _).mono ?_; rintro e w' ⟨rfl, rfl⟩; rw [HDI.out]))
          go_ret
          exact ⟨ret_bool hF.out.symm, (Below.refl _ w).alloc (Nat.le_refl _) _⟩
    · have hnx : ∀ ty, (Instr.next (.pointer (some ⟨w.heap.size, 0, none⟩)) true ty).run Tryz.prog (w.iter s pos) = _ := fun ty => run_next_end w s pos ty hp
      have hF : Hid (word24 s = true) := by
        show _ = _
        rw [HV.out, wordL_iff]
        refine ⟨HN0.out, ?_⟩
        have h1 := hO.out
        have : pos = (bl s).length := by have := HL.out; unfold bl; omega
        rwa [this] at h1
      go_wp2
      go_ret
      exact ⟨ret_bool hF.out.symm, (Below.refl _ w).alloc (Nat.le_refl _) _⟩
theorem one_grown' {w w' : World} {b : Nat} {v : Value} {t : TypeId} {row : Option Nat} (h : w.heap[b]? = some (.cells #[v] t (0, 0))) (hg : w.grownBy w' row) (hr : some b ≠ row) : w'.heap[b]? = some (.cells #[v] t (0, 0)) :=
  (hg.block b (Array.getElem?_eq_some_iff.1 h).1 hr).trans h
theorem resultsLab {w : World} {a : Array Value} {r : Nat} {x : Bool} (ha : a[2]?.getD undef = .pointer (some ⟨r, 0, none⟩)) (h : w.heap[r]? = some (.cells #[.bool x] 4 (0, 0))) :
    (results Tryz.f79 a).run Tryz.prog w = .ok (.bool x) w := by
  have hc := cell_of_one h
  simp [results, Tryz.results79, ha, go_sem, hc]
def partB (s : ByteArray) : Bool := partL (bl s)
theorem part_long (s : ByteArray) (h : 20 < (s.size : Int)) : partB s = false := by
  have := size_len s
  unfold partB partL bl; rw [decide_eq_false (by omega), Bool.false_and]
theorem part_short (s : ByteArray) (h : ¬ 20 < (s.size : Int)) : partB s = word24 s := by
  have := size_len s
  unfold partB partL word24; rw [decide_eq_true (by unfold bl; omega), decide_eq_true (by omega)]

set_option maxRecDepth 100000 in
set_option maxHeartbeats 1000000 in
theorem label_any (s : ByteArray) (w : World) (hs : s.size ≤ maxLen) :
    Calls Tryz.prog 79 #[.string s] w fun e w' => e = .returned (.bool (labB s)) ∧ Below w.heap.size w w' := by
  refine (callsIn_wide (n := 6)).1 ?_
  unfold maxLen at hs
  have HL := Lib.hid (size_len s)
  have hf65 : Fence.wide.fn 111 := trivial
  have hf66 : Fence.wide.fn 112 := trivial
  refine callsIn_of_wp_marks Tryz.func79 rfl trivial ?_ rfl
  simp only [Tryz.ntmps79, List.size_toArray, List.length_cons, List.length_nil, Nat.reduceAdd, Nat.reduceSub, Array.replicate_succ, Array.replicate_zero, List.push_toArray, List.append_toArray, List.nil_append, List.cons_append]
  by_cases c1 : 90 < (s.size : Int)
  · have hv : Hid (labB s = false) := by
      show _ = _
      have := HL.out
      unfold labB labL bl; rw [decide_eq_false (by omega), Bool.false_and]
    gi_wp2_with fail
    refine ⟨_, resultsLab rfl (World.alloc_heap_new w _), ?_⟩
    exact ⟨ret_bool hv.out.symm, (Below.refl _ _).alloc (Nat.le_refl _) _⟩
  have c1' : (s.size : Int) ≤ 90 := by omega
  have HN : Hid (labB s = (splitS (bl s)).all partL) := by
    show _ = _
    have := HL.out
    unfold labB labL; rw [decide_eq_true (by unfold bl; omega), Bool.true_and]
  gi_wp2_with (gi_at_call 111; refine (callsIn_wide.2 (splitSeq_any _ _)).mono ?_; rintro e w' ⟨rfl, rfl⟩)
  obtain ⟨W0, hW0⟩ : ∃ W0, (((w.alloc (.cells #[.bool false] 4)).alloc (.cells #[.string s] 9)).alloc (.cells #[.string ⟨#[47]⟩] 9)).alloc (.cells #[.int .i64 0] 3) = W0 := ⟨_, rfl⟩
  have hz : W0.heap.size = w.heap.size + 4 := by rw [← hW0]; simp
  have g0 : W0.heap[w.heap.size]? = some (.cells #[.bool false] 4 (0, 0)) := by
    rw [← hW0]
    exact (Below.heap_alloc _ _ _ (by simp; omega)).trans ((Below.heap_alloc _ _ _ (by simp; omega)).trans ((Below.heap_alloc _ _ _ (by simp)).trans (World.alloc_heap_new w _)))
  have g1 : W0.heap[w.heap.size + 1]? = some (.cells #[.string s] 9 (0, 0)) := by
    rw [← hW0]
    refine (Below.heap_alloc _ _ _ (by simp)).trans ((Below.heap_alloc _ _ _ (by simp)).trans ?_)
    have := World.alloc_heap_new (w.alloc (.cells #[.bool false] 4)) (.cells #[.string s] 9); rwa [World.size_alloc] at this
  have g2 : W0.heap[w.heap.size + 1 + 1]? = some (.cells #[.string ⟨#[47]⟩] 9 (0, 0)) := by
    rw [← hW0]
    refine (Below.heap_alloc _ _ _ (by simp)).trans ?_
    have := World.alloc_heap_new ((w.alloc (.cells #[.bool false] 4)).alloc (.cells #[.string s] 9)) (.cells #[.string ⟨#[47]⟩] 9); rwa [World.size_alloc, World.size_alloc] at this
  have g3 : W0.heap[w.heap.size + 1 + 2]? = some (.cells #[.int .i64 0] 3 (0, 0)) := by
    rw [← hW0]
    have := World.alloc_heap_new (((w.alloc (.cells #[.bool false] 4)).alloc (.cells #[.string s] 9)).alloc (.cells #[.string ⟨#[47]⟩] 9)) (.cells #[.int .i64 0] 3); rwa [World.size_alloc, World.size_alloc, World.size_alloc] at this
  have hb0 : Below w.heap.size w W0 := by
    rw [← hW0]
    exact ((((Below.refl _ w).alloc (Nat.le_refl _) _).alloc (by simp) _).alloc (by simp; omega) _).alloc (by simp; omega) _
  rw [hW0]
  refine wpIn_rangeP (F := Fence.wide) (n := 6) rfl (by omega) (gf := 213) (lb := #[.pointer (some ⟨w.heap.size + 1 + 1, 0, none⟩), .pointer (some ⟨w.heap.size + 1, 0, none⟩), .pointer (some ⟨w.heap.size + 1 + 2, 0, none⟩)]) rfl trivial (enters_of Tryz.func213 (by kernel_rfl) rfl)
    (split1_st 5 (w.heap.size + 1) (by omega) s W0 (by omega) (by omega) g1 g2 g3) keepS_t (fun W l o hl => keepS_put (m := w.heap.size + 4) (by omega) W l o (by omega)) (stS_others) (Below.refl _ _) (fun _ => rfl)
    (fun pre W => W.heap[w.heap.size]? = some (.cells #[.bool false] 4 (0, 0)) ∧ Hid (∀ x ∈ pre, partB x = true) ∧ Below w.heap.size w W ∧ w.heap.size + 4 ≤ W.heap.size)
    (fun c pre W => c = .ret ∧ W.heap[w.heap.size]? = some (.cells #[.bool false] 4 (0, 0)) ∧ Hid (∃ x ∈ pre, partB x = false) ∧ Below w.heap.size w W)
    ?hI ?hIx ?hIS ⟨g0, by simp [Hid], hb0, by omega⟩ ?a1 ?assign ?body ?done ?stop
  case assign =>
    intro l x W K hK
    have HKK := Lib.hid hK
    clear hK
    gi_wp2
    exact HKK.out
  case hI =>
    rintro pre A B row ⟨h1, h2, h3, h4⟩ hg hr
    refine ⟨one_grown' h1 hg (fun e => ?_), h2, h3.grown hg h3.size (fun k e => ?_), Nat.le_trans h4 hg.size⟩
    · have := (hr _ e.symm).1; omega
    · have := (hr _ e).1; omega
  case hIx =>
    rintro c pre A B row ⟨h0, h1, h2, h3⟩ hg hr
    refine ⟨h0, one_grown' h1 hg (fun e => ?_), h2, h3.grown hg h3.size (fun k e => ?_)⟩
    · have := (hr _ e.symm).1; omega
    · have := (hr _ e).1; omega
  case hIS =>
    rintro pre A B ⟨h1, h2, h3, h4⟩ ⟨v, rfl⟩
    exact ⟨(Below.heap_setCell _ _ _ _ (by simp)).trans h1, h2, h3.setCell (p := ⟨w.heap.size + 1, 0, none⟩) (by simp) _, by simpa [World.setCell] using h4⟩
  case body =>
    rintro l pre x W ⟨r, hr⟩ ⟨h1, h2, h3, h4⟩
    have hxs : x.size ≤ maxLen := by
      have hm : bl x ∈ splitS (bl s) := by rw [← hr]; simp
      have h5 := splitS_len (bl s) _ hm
      have h6 := size_len x
      have h7 := HL.out
      unfold bl at h5; unfold maxLen; omega
    have c0 := cell_of_one h1
    have f0 := free_of_one h1
    have H1 := Lib.hid h1; have H3 := Lib.hid h3
    clear h1 h3 g0 g1 g2 g3 hb0 hW0 hr
    by_cases hx20 : 20 < (x.size : Int)
    · have HP := Lib.hid (part_long x hx20)
      gi_wp2
      exact ⟨KeepsOthers.setCell _ _ _, rfl, one_setCell H1.out, ⟨x, by simp, HP.out⟩, H3.out.setCell (p := ⟨w.heap.size, 0, none⟩) (Nat.le_refl _) _⟩
    · have HPS := Lib.hid (part_short x hx20)
      cases hv : word24 x with
      | true =>
        have HV := Lib.hid hv
        clear hv
        gi_wp2_with (gi_at_call 112; refine (CallsIn.inRound l (callsIn_wide.2 (word_any x _ hxs))).mono ?_; rintro e w' ⟨rfl, hb⟩; rw [HV.out]; refine halt_ ?_)
        refine unhalt ?_
        have HB := Lib.hid hb
        clear hb
        gi_wp2
        refine ⟨⟨HB.out.size, fun k o hk _ => (HB.out.block k (Array.getElem?_eq_some_iff.1 hk).1).trans hk⟩, fun k h5 h6 => HB.out.block k (by omega), (HB.out.block _ (by omega)).trans H1.out, ?_, H3.out.trans (HB.out.mono (by omega)), Nat.le_trans h4 HB.out.size⟩
        intro y hy
        rcases List.mem_append.1 hy with h | h
        · exact h2.out y h
        · simp at h; subst h; rw [HPS.out]; exact HV.out
      | false =>
        have HV := Lib.hid hv
        clear hv
        gi_wp2_with (gi_at_call 112; refine (CallsIn.inRound l (callsIn_wide.2 (word_any x _ hxs))).mono ?_; rintro e w' ⟨rfl, hb⟩; rw [HV.out]; refine halt_ ?_)
        refine unhalt ?_
        have H1' := (hb.block w.heap.size (by omega)).trans H1.out
        have c2 := cell_of_one H1'
        have f2 := free_of_one H1'
        have HB := Lib.hid hb; have HH1 := Lib.hid H1'
        clear hb H1' c0 f0
        gi_wp2
        refine ⟨(KeepsOthers.trans ⟨HB.out.size, fun k o hk _ => (HB.out.block k (Array.getElem?_eq_some_iff.1 hk).1).trans hk⟩ (KeepsOthers.setCell _ _ _)), rfl, one_setCell HH1.out, ⟨x, by simp, by rw [HPS.out]; exact HV.out⟩, (H3.out.trans (HB.out.mono (by omega))).setCell (p := ⟨w.heap.size, 0, none⟩) (Nat.le_refl _) _⟩
  case done =>
    rintro D xs W hD hS ⟨h1, h2, h3, h4⟩ hK
    have c0 := cell_of_one h1
    have f0 := free_of_one h1
    have H1 := Lib.hid h1; have H3 := Lib.hid h3; have HK := Lib.hid hK; have HS := Lib.hid hS
    clear h1 h3 hK hS
    gi_wp2
    have hK2 := (KeepsOthers.setCell W ⟨w.heap.size, 0, none⟩ (.bool true)).same D _ HK.out rfl
    refine ⟨by simp, .inl ⟨_, _, rfl, run_takeDeferred hK2, ?_⟩⟩
    refine ⟨_, resultsLab rfl ((World.putObj_heap_other (by omega)).trans (one_setCell H1.out)), ret_bool ?_, ?_⟩
    · rw [HN.out]
      symm
      rw [List.all_eq_true]
      intro y hy
      have hy' : y ∈ xs.map bl := by rw [HS.out]; exact hy
      obtain ⟨x, hx, rfl⟩ := List.mem_map.1 hy'
      exact h2.out x hx
    · exact (H3.out.setCell (p := ⟨w.heap.size, 0, none⟩) (Nat.le_refl _) _).grown (grownBy_putObj' _ _ _) ((H3.out.setCell (p := ⟨w.heap.size, 0, none⟩) (Nat.le_refl _) _).size) (fun k e => by cases e; omega)
  case stop =>
    rintro D c pre W hD hS ⟨rfl, h1, h2, h3⟩ hK
    have H1 := Lib.hid h1; have H3 := Lib.hid h3; have HK := Lib.hid hK; have HS := Lib.hid hS
    clear h1 h3 hK hS
    gi_wp2
    refine ⟨by simp, .inl ⟨_, _, rfl, run_takeDeferred HK.out, ?_⟩⟩
    refine ⟨_, resultsLab rfl ((World.putObj_heap_other (by omega)).trans H1.out), ret_bool ?_, ?_⟩
    · rw [HN.out]
      symm
      rw [List.all_eq_false]
      obtain ⟨x, hx, hxv⟩ := h2.out
      obtain ⟨r, hr⟩ := HS.out
      refine ⟨bl x, ?_, by simpa [partB] using hxv⟩
      rw [← hr]
      exact List.mem_append.2 (.inl (List.mem_map.2 ⟨x, hx, rfl⟩))
    · exact H3.out.grown (grownBy_putObj' _ _ _) H3.out.size (fun k e => by cases e; omega)
end Go.Proofs.YtddlohbhchjjhaaGreatDoor

namespace Go.Proofs.YtddlohbhchjjhaaGreatDoor
open Go.RowKit Go.Shelf

theorem infoStr' : (Tryz.prog.info? 9).map (fun i => (i.zero, i.size, i.bytes)) = some (some (.string ⟨#[]⟩), 1, 16) := by kernel_rfl
def depsW : ByteArray := ⟨#[100, 101, 112, 115]⟩
def visibleW : ByteArray := ⟨#[118, 105, 115, 105, 98, 108, 101]⟩
def resB (s : ByteArray) : Bool := decide (s = depsW) || decide (s = visibleW)
def frlB (s : ByteArray) : Bool := labB s && !resB s
def starW : ByteArray := ⟨#[42]⟩
def viewB (s : ByteArray) : Bool := if Lib.hasSuffix (bl s) [47] then labL (Lib.trimSuffix (bl s) [47]) else decide (s = starW) || frlB s
def memB (l : List ByteArray) (x : ByteArray) : Bool := l.any (fun y => decide (y = x))
theorem memB_iff (l : List ByteArray) (x : ByteArray) : memB l x = true ↔ x ∈ l := by simp [memB, List.any_eq_true]
/-- the error of the first element that has one: 6 where it is not ok, 7 where it stands ahead -/
def elE (ok : ByteArray → Bool) : List ByteArray → List ByteArray → Int
  | _, [] => 0
  | seen, x :: r => if ok x then (if memB seen x then 7 else elE ok (seen ++ [x]) r) else 6
def visE (vis : List ByteArray) : Int := if 20 < vis.length then 4 else elE viewB [] vis
theorem str_dec (a b : ByteArray) : (a.toList == b.toList) = decide (a = b) := by
  by_cases e : a = b
  · subst e; simp
  · rw [decide_eq_false e, beq_eq_false_iff_ne]
    intro h
    rw [ByteArray.toList_eq, ByteArray.toList_eq] at h
    exact e (data_inj h)

theorem str_lit (s : ByteArray) (l : List UInt8) : (s.toList == l) = decide (s = ⟨l.toArray⟩) := by
  rw [← str_dec]
  congr 1
  rw [ByteArray.toList_eq]
set_option maxHeartbeats 400000 in
theorem contains_any (A : Option Addr) (n k c B : Nat) (l : List ByteArray) (x : ByteArray) (w : World) (h : Sl w B 1 A n (strs l)) (hk : k ≤ n) (hn : n ≤ 9223372036854775807) :
    Calls Tryz.prog 31 #[.slice A k c, .string x] w fun e w' => e = .returned (.bool (memB (l.take k) x)) ∧ w = w' := by
  have hl : l.length = n := by have := h.1; rw [strs_len] at this; omega
  rcases Nat.eq_zero_or_pos k with h0 | h0
  · subst h0
    refine (Tryz.slices_Contains_string_empty A c x w).mono ?_
    rintro e w' ⟨rfl, rfl⟩
    exact ⟨rfl, rfl⟩
  · obtain ⟨b, off, rfl, _, hc⟩ := h.2 (by omega)
    refine (Tryz.slices_Contains_string b off k c l x w (by omega) (by omega) (fun j hj => ?_)).mono ?_
    · rw [hc j (.string l[j]) (by simp [strs, hj])]
      simp [hj]
    · rintro e w' ⟨rfl, rfl⟩
      refine ⟨ret_bool ?_, rfl⟩
      rw [Bool.eq_iff_iff, Lib.containsS_iff, memB_iff]
set_option maxHeartbeats 400000 in
theorem reserved_any (s : ByteArray) (w : World) : Calls Tryz.prog 216 #[.string s] w fun e w' => e = .returned (.bool (resB s)) ∧ w = w' := by
  have h1 : (s.toList == [100, 101, 112, 115]) = decide (s = depsW) := str_lit s _; have h2 : (s.toList == [118, 105, 115, 105, 98, 108, 101]) = decide (s = visibleW) := str_lit s _
  by_cases e1 : s = depsW
  · have hv : Hid (resB s = true) := by show _ = _; unfold resB; rw [decide_eq_true e1]; rfl
    rw [decide_eq_true e1] at h1
    have h1' : (s.toList == [100, 101, 112, 115]) = true := h1
    clear h1 h2 e1
    go_enter Tryz.func216, Tryz.ntmps216
    go_wp2
    go_ret
    exact ⟨ret_bool hv.out.symm, rfl⟩
  · rw [decide_eq_false e1] at h1
    have h1' : (s.toList == [100, 101, 112, 115]) = false := h1
    by_cases e2 : s = visibleW
    · have hv : Hid (resB s = true) := by show _ = _; unfold resB; rw [decide_eq_true e2]; simp
      rw [decide_eq_true e2] at h2
      have h2' : (s.toList == [118, 105, 115, 105, 98, 108, 101]) = true := h2
      clear h1 h2 e1 e2
      go_enter Tryz.func216, Tryz.ntmps216
      go_wp2
      go_ret
      exact ⟨ret_bool hv.out.symm, rfl⟩
    · have hv : Hid (resB s = false) := by show _ = _; unfold resB; rw [decide_eq_false e1, decide_eq_false e2]; rfl
      rw [decide_eq_false e2] at h2
      have h2' : (s.toList == [118, 105, 115, 105, 98, 108, 101]) = false := h2
      clear h1 h2 e1 e2
      go_enter Tryz.func216, Tryz.ntmps216
      go_wp2
      go_ret
      exact ⟨ret_bool hv.out.symm, rfl⟩
set_option maxHeartbeats 400000 in
theorem freeLabel_any (s : ByteArray) (w : World) (hs : s.size ≤ maxLen) : Calls Tryz.prog 165 #[.string s] w fun e w' => e = .returned (.bool (frlB s)) ∧ Below w.heap.size w w' := by
  go_enter Tryz.func165, Tryz.ntmps165
  cases hl : labB s with
  | false =>
    have hv : Hid (frlB s = false) := by show _ = _; unfold frlB; rw [hl]; rfl
    have HL := Lib.hid hl
    clear hl
    go_wp2_with (go_at_call 79; refine (label_any _ _ hs).mono ?_; rintro e w1 ⟨rfl, hb⟩; rw [HL.out])
    go_ret
    exact ⟨ret_bool hv.out.symm, hb⟩
  | true =>
    have hv : Hid (frlB s = !resB s) := by show _ = _; unfold frlB; rw [hl]; rfl
    have HL := Lib.hid hl
    clear hl
    go_wp2_with (first
      | (go_at_call 79; refine (label_any _ _ hs).mono ?_; rintro e w1 ⟨rfl, hb⟩; rw [HL.out])
      | (go_at_call 216; refine (reserved_any _ _).mono ?_; rintro e w2 ⟨rfl, rfl⟩))
    go_ret
    exact ⟨ret_bool hv.out.symm, hb⟩
set_option maxHeartbeats 1000000 in
theorem viewer_any (s : ByteArray) (w : World) (hs : s.size ≤ maxLen) : Calls Tryz.prog 166 #[.string s] w fun e w' => e = .returned (.bool (viewB s)) ∧ Below w.heap.size w w' := by
  go_enter Tryz.func166, Tryz.ntmps166
  have hs' : s.size ≤ 9223372036854775807 := by unfold maxLen at hs; exact hs
  cases hc : Lib.hasSuffix s.data.toList [47] with
  | true =>
    have hv : Hid (viewB s = labB ⟨(Lib.trimSuffix s.data.toList [47]).toArray⟩) := by
      show _ = _
      unfold viewB bl; rw [if_pos hc]; unfold labB bl; simp
    have HC := Lib.hid hc
    have hz : (⟨(Lib.trimSuffix s.data.toList [47]).toArray⟩ : ByteArray).size ≤ maxLen := by
      have h1 := Lib.trimSuffix_le s.data.toList [47]
      have h2 := size_len s
      show (Lib.trimSuffix s.data.toList [47]).toArray.size ≤ _
      simp; omega
    clear hc
    go_wp2_with (first
      | (go_at_call 217; refine (Tryz.strings_CutSuffix _ _ _ hs').mono ?_; rintro e w1 ⟨rfl, rfl⟩; simp only [HC.out])
      | (go_at_call 79; refine (label_any _ _ hz).mono ?_; rintro e w1 ⟨rfl, hb⟩))
    go_ret
    exact ⟨ret_bool hv.out.symm, hb⟩
  | false =>
    have HC := Lib.hid hc
    have h1 : (s.toList == [42]) = decide (s = starW) := str_lit s _
    by_cases e1 : s = starW
    · have hv : Hid (viewB s = true) := by show _ = _; unfold viewB bl; rw [if_neg (by rw [hc]; simp), decide_eq_true e1]; rfl
      rw [decide_eq_true e1] at h1
      have h1' : (s.toList == [42]) = true := h1
      clear hc h1 e1
      go_wp2_with (go_at_call 217; refine (Tryz.strings_CutSuffix _ _ _ hs').mono ?_; rintro e w1 ⟨rfl, rfl⟩; simp only [HC.out])
      go_ret
      exact ⟨ret_bool hv.out.symm, Below.refl _ _⟩
    · have hv : Hid (viewB s = frlB s) := by show _ = _; unfold viewB bl; rw [if_neg (by rw [hc]; simp), decide_eq_false e1, Bool.false_or]
      rw [decide_eq_false e1] at h1
      have h1' : (s.toList == [42]) = false := h1
      clear hc h1 e1
      go_wp2_with (first
        | (go_at_call 217; refine (Tryz.strings_CutSuffix _ _ _ hs').mono ?_; rintro e w1 ⟨rfl, rfl⟩; simp only [HC.out])
        | (go_at_call 165; refine (freeLabel_any _ _ hs).mono ?_; rintro e w1 ⟨rfl, hb⟩))
      go_ret
      exact ⟨ret_bool hv.out.symm, hb⟩
set_option maxHeartbeats 1000000 in
theorem checkNone_any (A : Option Addr) (c : Nat) (f : Value) (w : World) : Calls Tryz.prog 164 #[.slice A 0 c, f] w fun e w' => e = .returned (.int .i64 0) ∧ w = w' := by
  go_enter Tryz.func164, Tryz.ntmps164
  go_wp2
  go_loop [9] (fun i => i = .int .i64 0) (fun _ => 0)
  case atStart => rfl
  case round =>
    subst hrel
    go_wp2
    go_ret
    exact ⟨rfl, rfl⟩
theorem elE_take {ok : ByteArray → Bool} {l : List ByteArray} {k : Nat} {x : ByteArray} (h : l[k]? = some x) : elE ok (l.take k) (l.drop k) = if ok x then (if memB (l.take k) x then 7 else elE ok (l.take (k + 1)) (l.drop (k + 1))) else 6 := by
  have hk := (List.getElem?_eq_some_iff.1 h).1
  rw [List.drop_eq_getElem_cons hk, (List.getElem?_eq_some_iff.1 h).2]
  simp only [elE]
  rw [take_snoc h]
set_option maxRecDepth 100000 in
set_option maxHeartbeats 2000000 in
theorem checkView_any (A : Option Addr) (n c B : Nat) (l : List ByteArray) (w : World) (h : Sl w B 1 A n (strs l)) (hB : B ≤ w.heap.size) (hn : n ≤ c) (hc : c ≤ maxLen) (hls : ∀ x ∈ l, x.size ≤ maxLen) :
    Calls Tryz.prog 164 #[.slice A n c, .func (.func 166) #[] #[]] w fun e w' => e = .returned (.int .i64 (elE viewB [] l)) ∧ Below w.heap.size w w' := by
  have hnm : n ≤ 9223372036854775807 := by unfold maxLen at hc; omega
  have H := Lib.hid h; have HLS := Lib.hid hls
  have HLL : Hid (l.length = n) := by have := h.1; rw [strs_len] at this; show _ = _; omega
  clear h hls
  go_enter Tryz.func164, Tryz.ntmps164
  go_wp2
  go_loopw [9] (fun i wr => ∃ k : Nat, k ≤ n ∧ i = .int .i64 k ∧ Hid (elE viewB [] l = elE viewB (l.take k) (l.drop k)) ∧ Hid (Below w.heap.size w wr)) (fun i _ => n - (intOf i).toNat)
  case atStart => exact ⟨0, Nat.zero_le _, rfl, rfl, Below.refl _ _⟩
  case round =>
    obtain ⟨k, hk, rfl, hE, hBel⟩ := hrel
    by_cases hlt : k < n
    · obtain ⟨b, off, x, rfl, hb, hx, y0⟩ := (H.out.below hBel.out hB).str_at hlt
      have hxs := HLS.out x (List.mem_of_getElem? hx)
      have HT := Lib.hid (elE_take (ok := viewB) hx)
      have hlz : (k : Int) < (n : Int) := by omega
      clear hx
      cases hv : viewB x with
      | false =>
        have hF : Hid (elE viewB [] l = 6) := by show _ = _; rw [hE.out, HT.out, hv]; rfl
        have HV := Lib.hid hv
        clear hv
        go_wp2_with (go_at_call 166; refine (viewer_any _ _ hxs).mono ?_; rintro e w1 ⟨rfl, hb1⟩; rw [HV.out])
        go_ret
        exact ⟨ret_int hF.out.symm, hBel.out.trans (hb1.mono hBel.out.size)⟩
      | true =>
        have HV := Lib.hid hv
        have HT2 : Hid (elE viewB (l.take k) (l.drop k) = if memB (l.take k) x then 7 else elE viewB (l.take (k + 1)) (l.drop (k + 1))) := by show _ = _; rw [HT.out, hv]; rfl
        clear hv HT
        go_wp2_with (go_at_call 166; refine (viewer_any _ _ hxs).mono ?_; rintro e w1 ⟨rfl, hb1⟩; rw [HV.out]; refine halt_ ?_)
        refine unhalt ?_
        have HB1 : Hid (Below w.heap.size w w1) := hBel.out.trans (hb1.mono hBel.out.size)
        clear hb1 hBel y0
        have hsl : ∀ w' : World, (Instr.sliceAt 33 (.slice (some ⟨b, off, none⟩) n c) none (some (.int .i64 k)) none).run Tryz.prog w' = .ok (.slice (some ⟨b, off, none⟩) k c) w' := fun w' => by
          obtain ⟨i0, hi0, _⟩ := info_parts infoStr'
          exact run_slice_to 33 i0 Tryz.underlying33 hi0 _ n c k (by omega) w'
        have HSL := Lib.hid (contains_any (some ⟨b, off, none⟩) n k c B l x w1 (H.out.below HB1.out hB) hk hnm)
        cases hm : memB (l.take k) x with
        | true =>
          have hF : Hid (elE viewB [] l = 7) := by show _ = _; rw [hE.out, HT2.out, hm]; rfl
          rw [hm] at HSL
          clear hm
          go_wp2_with (go_at_call 31; refine HSL.out.mono ?_; rintro e w2 ⟨rfl, rfl⟩)
          go_ret
          exact ⟨ret_int hF.out.symm, HB1.out⟩
        | false =>
          have hF : Hid (elE viewB [] l = elE viewB (l.take (k + 1)) (l.drop (k + 1))) := by show _ = _; rw [hE.out, HT2.out, hm]; rfl
          rw [hm] at HSL
          clear hm
          go_wp2_with (go_at_call 31; refine HSL.out.mono ?_; rintro e w2 ⟨rfl, rfl⟩)
          go_roundw
          case rel => exact ⟨k + 1, hlt, by go_num, hF.out, HB1.out⟩
          case measure => simp [intOf]; omega
    · have hlz : ¬ (k : Int) < (n : Int) := by omega
      have hF : Hid (elE viewB [] l = 0) := by
        show _ = _
        rw [hE.out, List.drop_of_length_le (by rw [HLL.out]; omega)]; rfl
      go_wp2
      go_ret
      exact ⟨ret_int hF.out.symm, hBel.out⟩
end Go.Proofs.YtddlohbhchjjhaaGreatDoor

namespace Go.Proofs.YtddlohbhchjjhaaGreatDoor
open Go.RowKit

abbrev Fl := ByteArray × ByteArray
def flC (f : Fl) : List Value := [.string f.1, .string f.2]
theorem flC_len (f : Fl) : (flC f).length = 2 := rfl
theorem below_drewN {B : Nat} {w w' : World} (h : Below B w w') : ∀ q, Below B w (w'.drewN q)
  | 0 => h
  | q + 1 => (below_drewN h q).drew
theorem Sl.fl {w : World} {B n k : Nat} {A : Option Addr} {fs : List Fl} (h : Sl w B 2 A n (flat flC fs)) (hk : k < n) :
    ∃ b off f, A = some ⟨b, off, none⟩ ∧ b < B ∧ fs[k]? = some f ∧ w.cell? ⟨b, off + k * 2, none⟩ = some (.string f.1) ∧ w.cell? ⟨b, off + k * 2 + 1, none⟩ = some (.string f.2) := by
  obtain ⟨b, off, x, e, hb, hx, hc⟩ := h.at_ flC_len (by omega) hk
  exact ⟨b, off, x, e, hb, hx, hc 0 _ rfl, hc 1 _ rfl⟩
end Go.Proofs.YtddlohbhchjjhaaGreatDoor

namespace Go.Proofs.YtddlohbhchjjhaaGreatDoor

section
variable {α : Type} (nx : α → List α)
/-- b is reached from a in n + 1 steps. -/
def Stp : Nat → α → α → Prop
  | 0, a, b => b ∈ nx a
  | n + 1, a, b => ∃ c, Stp n a c ∧ b ∈ nx c
/-- b is reached from a in one or more steps. -/
def Rch (a b : α) : Prop := ∃ n, Stp nx n a b
variable {nx}
theorem Rch.one {a b : α} (h : b ∈ nx a) : Rch nx a b := ⟨0, h⟩
theorem Rch.snoc {a b c : α} (h : Rch nx a b) (hc : c ∈ nx b) : Rch nx a c := by
  obtain ⟨n, hn⟩ := h; exact ⟨n + 1, b, hn, hc⟩
/-- the same, from the front -/
theorem Stp.cons : ∀ {n : Nat} {a b c : α}, b ∈ nx a → Stp nx n b c → Stp nx (n + 1) a c
  | 0, _, b, _, h, hc => ⟨b, h, hc⟩
  | _ + 1, _, _, _, h, ⟨d, hd, hc⟩ => ⟨d, Stp.cons h hd, hc⟩
theorem Stp.uncons : ∀ {n : Nat} {a c : α}, Stp nx (n + 1) a c → ∃ b, b ∈ nx a ∧ Stp nx n b c
  | 0, _, _, ⟨b, hb, hc⟩ => ⟨b, hb, hc⟩
  | _ + 1, _, _, ⟨d, hd, hc⟩ => by
    obtain ⟨b, hb, hbd⟩ := Stp.uncons hd
    exact ⟨b, hb, d, hbd, hc⟩
theorem Stp.mem {n : Nat} {a b : α} {u : List α} (hu : ∀ x, ∀ y ∈ nx x, y ∈ u) (h : Stp nx n a b) : b ∈ u := by
  cases n with
  | zero => exact hu _ _ h
  | succ n => obtain ⟨c, _, hb⟩ := h; exact hu _ _ hb

/-! ### the search -/
/-- The state of a search: what has been met, what is still to be looked at. -/
structure Srch (nx : α → List α) (s : α) (met : List α) (todo : List α) : Prop where
  nodup : met.Nodup
  sound : ∀ x ∈ met, Rch nx s x
  queue : ∀ x ∈ todo, x = s ∨ x ∈ met
  /-- whatever has been met and is not in the queue has been looked at -/
  done : ∀ x, (x = s ∨ x ∈ met) → x ∈ todo ∨ ∀ y ∈ nx x, y ∈ met
theorem Srch.start (nx : α → List α) (s : α) : Srch nx s [] [s] :=
  ⟨List.nodup_nil, (fun x h => by cases h), fun x h => .inl (List.mem_singleton.1 h), fun x h => by
    rcases h with rfl | h
    · exact .inl (by simp)
    · cases h⟩
/-- at the end what has been met is what can be reached -/
theorem Srch.end_ {s : α} {met : List α} (h : Srch nx s met []) (x : α) : x ∈ met ↔ Rch nx s x := by
  refine ⟨h.sound x, ?_⟩
  rintro ⟨n, hn⟩
  induction n generalizing x with
  | zero =>
    rcases h.done s (.inl rfl) with h' | h'
    · cases h'
    · exact h' x hn
  | succ n ih =>
    obtain ⟨c, hc, hx⟩ := hn
    rcases h.done c (.inr (ih c hc)) with h' | h'
    · cases h'
    · exact h' x hx
/-- In the middle of looking at p: the labels ys of nx p are still to come. -/
structure Look (nx : α → List α) (s : α) (met todo : List α) (p : α) (ys : List α) : Prop where
  nodup : met.Nodup
  sound : ∀ x ∈ met, Rch nx s x
  queue : ∀ x ∈ todo, x = s ∨ x ∈ met
  here : p = s ∨ p ∈ met
  part : ∀ y ∈ nx p, y ∈ met ∨ y ∈ ys
  sub : ∀ y ∈ ys, y ∈ nx p
  done : ∀ x, (x = s ∨ x ∈ met) → x = p ∨ x ∈ todo ∨ ∀ y ∈ nx x, y ∈ met
theorem Srch.look {s p : α} {met todo : List α} (h : Srch nx s met (p :: todo)) : Look nx s met todo p (nx p) :=
  ⟨h.nodup, h.sound, fun x hx => h.queue x (by simp [hx]), h.queue p (by simp), fun y hy => .inr hy, fun y hy => hy, fun x hx => by
    rcases h.done x hx with h' | h'
    · rcases List.mem_cons.1 h' with e | h'
      · exact .inl e
      · exact .inr (.inl h')
    · exact .inr (.inr h')⟩
theorem Look.skip {s p y : α} {met todo ys : List α} (h : Look nx s met todo p (y :: ys)) (hy : y ∈ met) : Look nx s met todo p ys :=
  ⟨h.nodup, h.sound, h.queue, h.here, fun z hz => by
    rcases h.part z hz with h' | h'
    · exact .inl h'
    · rcases List.mem_cons.1 h' with rfl | h'
      · exact .inl hy
      · exact .inr h', fun z hz => h.sub z (by simp [hz]), h.done⟩
theorem Look.take {s p y : α} {met todo ys : List α} (h : Look nx s met todo p (y :: ys)) (hy : y ∉ met) : Look nx s (met ++ [y]) (todo ++ [y]) p ys := by
  have hr : Rch nx s y := by
    have hp := h.sub y (by simp)
    rcases h.here with rfl | hm
    · exact Rch.one hp
    · exact (h.sound p hm).snoc hp
  refine ⟨?_, fun x hx => ?_, fun x hx => ?_, ?_, fun z hz => ?_, fun z hz => h.sub z (by simp [hz]), fun x hx => ?_⟩
  · rw [List.nodup_append]
    exact ⟨h.nodup, by simp, fun a ha b hb => by rw [List.mem_singleton.1 hb]; rintro rfl; exact hy ha⟩
  · rcases List.mem_append.1 hx with hx | hx
    · exact h.sound x hx
    · rw [List.mem_singleton.1 hx]; exact hr
  · rcases List.mem_append.1 hx with hx | hx
    · rcases h.queue x hx with e | e
      · exact .inl e
      · exact .inr (by simp [e])
    · exact .inr (by simp [List.mem_singleton.1 hx])
  · rcases h.here with e | e
    · exact .inl e
    · exact .inr (by simp [e])
  · rcases h.part z hz with h' | h'
    · exact .inl (by simp [h'])
    · rcases List.mem_cons.1 h' with rfl | h'
      · exact .inl (by simp)
      · exact .inr h'
  · have hx' : (x = s ∨ x ∈ met) ∨ x = y := by
      rcases hx with e | e
      · exact .inl (.inl e)
      · rcases List.mem_append.1 e with e | e
        · exact .inl (.inr e)
        · exact .inr (List.mem_singleton.1 e)
    rcases hx' with hx' | rfl
    · rcases h.done x hx' with e | e | e
      · exact .inl e
      · exact .inr (.inl (by simp [e]))
      · exact .inr (.inr fun z hz => by simp [e z hz])
    · exact .inr (.inl (by simp))
theorem Look.close {s p : α} {met todo : List α} (h : Look nx s met todo p []) : Srch nx s met todo :=
  ⟨h.nodup, h.sound, h.queue, fun x hx => by
    rcases h.done x hx with rfl | e | e
    · exact .inr fun y hy => (h.part y hy).resolve_right (by simp)
    · exact .inl e
    · exact .inr e⟩
/-- p is left out: it has been looked at before -/
theorem Srch.pass {s p : α} {met todo : List α} (h : Srch nx s met (p :: todo)) (hp : ∀ y ∈ nx p, y ∈ met) : Srch nx s met todo :=
  ⟨h.nodup, h.sound, fun x hx => h.queue x (by simp [hx]), fun x hx => by
    rcases h.done x hx with e | e
    · rcases List.mem_cons.1 e with rfl | e
      · exact .inr hp
      · exact .inl e
    · exact .inr e⟩

/-! ### least numbers of steps -/
/-- b is reached from a in k + 1 steps and not in fewer. -/
def Dst (nx : α → List α) (k : Nat) (a b : α) : Prop := Stp nx k a b ∧ ∀ m, m < k → ¬ Stp nx m a b
theorem Dst.next {k : Nat} {a b : α} (h : Dst nx (k + 1) a b) : ∃ c, c ∈ nx a ∧ Dst nx k c b := by
  obtain ⟨c, hc, hs⟩ := Stp.uncons h.1
  exact ⟨c, hc, hs, fun m hm hn => h.2 (m + 1) (by omega) (Stp.cons hc hn)⟩
theorem Dst.uniq {j k : Nat} {a b : α} (h : Dst nx j a b) (h' : Dst nx k a b) : j = k := by
  rcases Nat.lt_trichotomy j k with e | e | e
  · exact absurd h.1 (h'.2 j e)
  · exact e
  · exact absurd h'.1 (h.2 k e)
theorem Dst.of_rch {a b : α} (h : Rch nx a b) : ∃ k, Dst nx k a b := by
  obtain ⟨n, hn⟩ := h
  induction n using Nat.strongRecOn with
  | _ n ih =>
    by_cases hm : ∃ m, m < n ∧ Stp nx m a b
    · obtain ⟨m, hl, hs⟩ := hm
      exact ih m hl hs
    · exact ⟨n, hn, fun m hl hs => hm ⟨m, hl, hs⟩⟩
/-- A search by levels from a for b, before level n + 1: seen are the labels reached in at most n steps, b is none of them; now are those that have not been looked at. -/
structure Lvl (nx : α → List α) (a b : α) (n : Nat) (seen now : List α) : Prop where
  sound : ∀ x ∈ seen, Rch nx a x
  here : ∀ x ∈ now, (n = 0 ∧ x = a) ∨ ∃ m, n = m + 1 ∧ Stp nx m a x
  all : ∀ m, m < n → ∀ x, Stp nx m a x → x ∈ seen
  not : b ∉ seen
  queue : ∀ x ∈ now, x = a ∨ x ∈ seen
  done : ∀ x, (x = a ∨ x ∈ seen) → x ∈ now ∨ ∀ y ∈ nx x, y ∈ seen
theorem Lvl.start (nx : α → List α) (a b : α) : Lvl nx a b 0 [] [a] :=
  ⟨(fun x h => by cases h), fun x h => .inl ⟨rfl, List.mem_singleton.1 h⟩, fun m h => absurd h (by omega), by simp, fun x h => .inl (List.mem_singleton.1 h), fun x h => by
    rcases h with rfl | h
    · exact .inl (by simp)
    · cases h⟩
theorem Lvl.none {a b : α} {n : Nat} {seen : List α} (h : Lvl nx a b n seen []) : ¬ Rch nx a b := by
  rintro ⟨m, hm⟩
  have key : ∀ m x, Stp nx m a x → x ∈ seen := by
    intro m
    induction m with
    | zero =>
      intro x hx
      rcases h.done a (.inl rfl) with e | e
      · cases e
      · exact e x hx
    | succ m ih =>
      rintro x ⟨c, hc, hx⟩
      rcases h.done c (.inr (ih c hc)) with e | e
      · cases e
      · exact e x hx
  exact h.not (key m b hm)
/-- In the middle of a level: of now, xs are still to come (behind p, whose labels ys are still to come); next are the new ones. -/
structure Mid (nx : α → List α) (a b : α) (n : Nat) (seen next : List α) (p : α) (ys xs : List α) : Prop where
  sound : ∀ x ∈ seen, Rch nx a x
  here : ∀ x, x = p ∨ x ∈ xs → (n = 0 ∧ x = a) ∨ ∃ m, n = m + 1 ∧ Stp nx m a x
  fresh : ∀ x ∈ next, Dst nx n a x
  all : ∀ m, m < n → ∀ x, Stp nx m a x → x ∈ seen
  not : b ∉ seen
  queue : ∀ x ∈ next, x ∈ seen
  old : ∀ x, x = p ∨ x ∈ xs → x = a ∨ x ∈ seen
  part : ∀ y ∈ nx p, y ∈ seen ∨ y ∈ ys
  sub : ∀ y ∈ ys, y ∈ nx p
  done : ∀ x, (x = a ∨ x ∈ seen) → x = p ∨ x ∈ xs ∨ x ∈ next ∨ ∀ y ∈ nx x, y ∈ seen
theorem Lvl.mid {a b p : α} {n : Nat} {seen xs : List α} (h : Lvl nx a b n seen (p :: xs)) : Mid nx a b n seen [] p (nx p) xs :=
  ⟨h.sound, fun x hx => h.here x (by simpa using hx), (fun x hx => by cases hx), h.all, h.not, (fun x hx => by cases hx), fun x hx => h.queue x (by simpa using hx), fun y hy => .inr hy, fun y hy => hy, fun x hx => by
    rcases h.done x hx with e | e
    · rcases List.mem_cons.1 e with e | e
      · exact .inl e
      · exact .inr (.inl e)
    · exact .inr (.inr (.inr e))⟩
theorem Mid.step {a b p y : α} {n : Nat} {seen next ys xs : List α} (h : Mid nx a b n seen next p (y :: ys) xs) : Stp nx n a y := by
  have hy := h.sub y (by simp)
  rcases h.here p (.inl rfl) with ⟨rfl, rfl⟩ | ⟨m, rfl, hm⟩
  · exact hy
  · exact ⟨p, hm, hy⟩
theorem Mid.found {a b p : α} {n : Nat} {seen next ys xs : List α} (h : Mid nx a b n seen next p (b :: ys) xs) : Dst nx n a b := ⟨h.step, fun m hm hs => h.not (h.all m hm b hs)⟩
theorem Mid.skip {a b p y : α} {n : Nat} {seen next ys xs : List α} (h : Mid nx a b n seen next p (y :: ys) xs) (hy : y ∈ seen) : Mid nx a b n seen next p ys xs :=
  ⟨h.sound, h.here, h.fresh, h.all, h.not, h.queue, h.old, fun z hz => by
    rcases h.part z hz with e | e
    · exact .inl e
    · rcases List.mem_cons.1 e with rfl | e
      · exact .inl hy
      · exact .inr e, fun z hz => h.sub z (by simp [hz]), h.done⟩
/-- seen' is seen with y (in whatever order) -/
theorem Mid.take {a b p y : α} {n : Nat} {seen seen' next ys xs : List α} (h : Mid nx a b n seen next p (y :: ys) xs) (hb : y ≠ b) (hn : y ∉ seen) (hs : ∀ x, x ∈ seen' ↔ x ∈ seen ∨ x = y) : Mid nx a b n seen' (next ++ [y]) p ys xs := by
  have hst := h.step
  refine ⟨fun x hx => ?_, h.here, fun x hx => ?_, fun m hm x hx => (hs x).2 (.inl (h.all m hm x hx)), fun hx => ?_, fun x hx => ?_, fun x hx => ?_, fun z hz => ?_, fun z hz => h.sub z (by simp [hz]), fun x hx => ?_⟩
  · rcases (hs x).1 hx with e | rfl
    · exact h.sound x e
    · exact ⟨n, hst⟩
  · rcases List.mem_append.1 hx with e | e
    · exact h.fresh x e
    · rw [List.mem_singleton.1 e]; exact ⟨hst, fun m hm hs' => hn (h.all m hm y hs')⟩
  · rcases (hs b).1 hx with e | e
    · exact h.not e
    · exact hb e.symm
  · rcases List.mem_append.1 hx with e | e
    · exact (hs x).2 (.inl (h.queue x e))
    · exact (hs x).2 (.inr (List.mem_singleton.1 e))
  · rcases h.old x hx with e | e
    · exact .inl e
    · exact .inr ((hs x).2 (.inl e))
  · rcases h.part z hz with e | e
    · exact .inl ((hs z).2 (.inl e))
    · rcases List.mem_cons.1 e with e | e
      · exact .inl ((hs z).2 (.inr e))
      · exact .inr e
  · have hx' : (x = a ∨ x ∈ seen) ∨ x = y := by
      rcases hx with e | e
      · exact .inl (.inl e)
      · rcases (hs x).1 e with e | e
        · exact .inl (.inr e)
        · exact .inr e
    rcases hx' with hx' | rfl
    · rcases h.done x hx' with e | e | e | e
      · exact .inl e
      · exact .inr (.inl e)
      · exact .inr (.inr (.inl (by simp [e])))
      · exact .inr (.inr (.inr fun z hz => (hs z).2 (.inl (e z hz))))
    · exact .inr (.inr (.inl (by simp)))
theorem Mid.on {a b p q : α} {n : Nat} {seen next xs : List α} (h : Mid nx a b n seen next p [] (q :: xs)) : Mid nx a b n seen next q (nx q) xs :=
  ⟨h.sound, fun x hx => h.here x (.inr (by simpa using hx)), h.fresh, h.all, h.not, h.queue, fun x hx => h.old x (.inr (by simpa using hx)), fun y hy => .inr hy, fun y hy => hy, fun x hx => by
    rcases h.done x hx with rfl | e | e | e
    · exact .inr (.inr (.inr fun y hy => (h.part y hy).resolve_right (by simp)))
    · rcases List.mem_cons.1 e with e | e
      · exact .inl e
      · exact .inr (.inl e)
    · exact .inr (.inr (.inl e))
    · exact .inr (.inr (.inr e))⟩
theorem Mid.close {a b p : α} {n : Nat} {seen next : List α} (h : Mid nx a b n seen next p [] []) : Lvl nx a b (n + 1) seen next := by
  have hdone : ∀ x, (x = a ∨ x ∈ seen) → x ∈ next ∨ ∀ y ∈ nx x, y ∈ seen := fun x hx => by
    rcases h.done x hx with rfl | e | e | e
    · exact .inr fun y hy => (h.part y hy).resolve_right (by simp)
    · cases e
    · exact .inl e
    · exact .inr e
  refine ⟨h.sound, fun x hx => .inr ⟨n, rfl, (h.fresh x hx).1⟩, fun m hm x hx => ?_, h.not, fun x hx => .inr (h.queue x hx), hdone⟩
  rcases Nat.lt_or_ge m n with hl | hl
  · exact h.all m hl x hx
  · obtain rfl : m = n := by omega
    -- x is reached in n + 1 steps from one that has been seen before
    cases m with
    | zero =>
      rcases h.done a (.inl rfl) with e | e | e | e
      · exact (h.part x (e ▸ hx)).resolve_right (by simp)
      · cases e
      · have := h.here p (.inl rfl)
        rcases this with ⟨_, rfl⟩ | ⟨m, hm', _⟩
        · exact (h.part x hx).resolve_right (by simp)
        · omega
      · exact e x hx
    | succ k =>
      obtain ⟨c, hc, hx⟩ := hx
      rcases h.done c (.inr (h.all k (by omega) c hc)) with rfl | e | e | e
      · exact (h.part x hx).resolve_right (by simp)
      · cases e
      · exact absurd hc ((h.fresh c e).2 k (by omega))
      · exact e x hx
end
end Go.Proofs.YtddlohbhchjjhaaGreatDoor

namespace Go.Proofs.YtddlohbhchjjhaaGreatDoor
open Go.RowKit

/-- A target: what is in its four cells, and the lists that its two slices hold. -/
structure Tg where
  lab : ByteArray
  kind : Int
  dA : Option Addr
  dn : Nat
  dc : Nat
  deps : List ByteArray
  vA : Option Addr
  vn : Nat
  vc : Nat
  vis : List ByteArray
def tgC (t : Tg) : List Value := [.string t.lab, .int .i64 t.kind, .slice t.dA t.dn t.dc, .slice t.vA t.vn t.vc]
def tgV (t : Tg) : Value := .agg #[.string t.lab, .int .i64 t.kind, .slice t.dA t.dn t.dc, .slice t.vA t.vn t.vc]
theorem tgC_len (t : Tg) : (tgC t).length = 4 := rfl
structure TgOk (w : World) (B : Nat) (t : Tg) : Prop where
  d : Sl w B 1 t.dA t.dn (strs t.deps)
  dle : t.dn ≤ t.dc
  dmax : t.dc ≤ maxLen
  v : Sl w B 1 t.vA t.vn (strs t.vis)
  vle : t.vn ≤ t.vc
  vmax : t.vc ≤ maxLen
  ls : t.lab.size ≤ maxLen
  ds : ∀ s ∈ t.deps, s.size ≤ maxLen
  vs : ∀ s ∈ t.vis, s.size ≤ maxLen
theorem TgOk.below {w w' : World} {B B' : Nat} {t : Tg} (h : TgOk w B t) (hb : Below B' w w') (hB : B ≤ B') : TgOk w' B t :=
  ⟨h.d.below hb hB, h.dle, h.dmax, h.v.below hb hB, h.vle, h.vmax, h.ls, h.ds, h.vs⟩
theorem TgOk.dlen {w : World} {B : Nat} {t : Tg} (h : TgOk w B t) : t.deps.length = t.dn := by
  have := h.d.1; rw [strs_len] at this; omega
theorem TgOk.vlen {w : World} {B : Nat} {t : Tg} (h : TgOk w B t) : t.vis.length = t.vn := by
  have := h.v.1; rw [strs_len] at this; omega

def findT : List Tg → ByteArray → Option Tg
  | [], _ => none
  | t :: ts, s => if t.lab = s then some t else findT ts s
def isT (ts : List Tg) (s : ByteArray) : Bool := (findT ts s).isSome
/-- the labels of targets on which a label depends directly -/
def nxT (ts : List Tg) (s : ByteArray) : List ByteArray := match findT ts s with
  | none => []
  | some t => t.deps.filter (isT ts)
theorem findT_lab : ∀ {ts : List Tg} {s : ByteArray} {t : Tg}, findT ts s = some t → t.lab = s ∧ t ∈ ts
  | [], _, _, h => by cases h
  | r :: ts, s, t, h => by
    simp only [findT] at h
    by_cases e : r.lab = s
    · rw [if_pos e] at h; cases h; exact ⟨e, by simp⟩
    · rw [if_neg e] at h
      have := findT_lab h
      exact ⟨this.1, by simp [this.2]⟩
theorem isT_iff : ∀ (ts : List Tg) (s : ByteArray), isT ts s = true ↔ s ∈ ts.map Tg.lab
  | [], s => by simp [isT, findT]
  | r :: ts, s => by
    have ih := isT_iff ts s
    unfold isT at ih ⊢
    simp only [findT, List.map_cons, List.mem_cons]
    by_cases e : r.lab = s
    · simp [e]
    · rw [if_neg e, ih]
      constructor
      · exact .inr
      · rintro (h | h)
        · exact absurd h.symm e
        · exact h
theorem findT_snoc : ∀ (ts : List Tg) (t : Tg) (s : ByteArray), findT (ts ++ [t]) s = match findT ts s with | some x => some x | none => if t.lab = s then some t else none
  | [], t, s => by simp [findT]
  | r :: ts, t, s => by
    simp only [List.cons_append, findT]
    by_cases e : r.lab = s
    · simp [e]
    · rw [if_neg e, if_neg e, findT_snoc ts t s]
theorem nxT_mem {ts : List Tg} {s x : ByteArray} (h : x ∈ nxT ts s) : isT ts x = true ∧ isT ts s = true := by
  unfold nxT at h
  cases hf : findT ts s with
  | none => rw [hf] at h; cases h
  | some t =>
    rw [hf] at h
    exact ⟨(List.mem_filter.1 h).2, by unfold isT; rw [hf]; rfl⟩
theorem rch_isT {ts : List Tg} {s x : ByteArray} (h : Rch (nxT ts) s x) : isT ts x = true := by
  obtain ⟨n, hn⟩ := h
  cases n with
  | zero => exact (nxT_mem hn).1
  | succ n => obtain ⟨c, _, hx⟩ := hn; exact (nxT_mem hx).1
/-- the labels that can be reached are what an ascending list of them is -/
theorem reach_uniq {nx : ByteArray → List ByteArray} {s : ByteArray} {l m : List ByteArray} (hl : Asc l) (hm : Asc m) (h1 : ∀ x, x ∈ l ↔ Rch nx s x) (h2 : ∀ x, x ∈ m ↔ Rch nx s x) : l = m :=
  asc_ext hl hm fun x => (h1 x).trans (h2 x).symm
end Go.Proofs.YtddlohbhchjjhaaGreatDoor

namespace Go.Proofs.YtddlohbhchjjhaaGreatDoor
open Go.ChangeShapes Go.WideShapes Go.ChangeAt Go.RowKit Go.Joins Go.Deep

theorem cellsStr : Tryz.prog.cellsOf 9 = 1 := by kernel_rfl
theorem cellsFl : Tryz.prog.cellsOf 42 = 2 := by kernel_rfl
theorem cellsTg : Tryz.prog.cellsOf 35 = 4 := by kernel_rfl
theorem cellsInt : Tryz.prog.cellsOf 3 = 1 := by kernel_rfl
theorem cellsBool : Tryz.prog.cellsOf 4 = 1 := by kernel_rfl
theorem cellsStrs : Tryz.prog.cellsOf 33 = 1 := by kernel_rfl
theorem cellsFls : Tryz.prog.cellsOf 22 = 1 := by kernel_rfl
theorem cellsTgs : Tryz.prog.cellsOf 25 = 1 := by kernel_rfl
theorem cellsGr : Tryz.prog.cellsOf 27 = 1 := by kernel_rfl

theorem list_of {α : Type} {p : Nat → α → Prop} : ∀ (n : Nat), (∀ i, i < n → ∃ x, p i x) → ∃ xs : List α, xs.length = n ∧ ∀ i x, xs[i]? = some x → p i x
  | 0, _ => ⟨[], rfl, fun i x h => by simp at h⟩
  | n + 1, h => by
    obtain ⟨xs, hl, hp⟩ := list_of n (fun i hi => h i (by omega))
    obtain ⟨y, hy⟩ := h n (by omega)
    refine ⟨xs ++ [y], by simp [hl], fun i x hx => ?_⟩
    rcases Nat.lt_or_ge i xs.length with hi | hi
    · rw [List.getElem?_append_left hi] at hx; exact hp i x hx
    · rw [List.getElem?_append_right hi] at hx
      have : i - xs.length = 0 := by
        rcases Nat.eq_zero_or_pos (i - xs.length) with h0 | h0
        · exact h0
        · rw [List.getElem?_eq_none (by simp; omega)] at hx; cases hx
      rw [this] at hx
      simp at hx
      subst hx
      have : i = n := by omega
      rw [this]; exact hy

theorem len2 {α : Type} {l : List α} (h : l.length = 2) : ∃ a b, l = [a, b] := by
  match l, h with
  | [a, b], _ => exact ⟨a, b, rfl⟩
theorem len3 {α : Type} {l : List α} (h : l.length = 3) : ∃ a b c, l = [a, b, c] := by
  match l, h with
  | [a, b, c], _ => exact ⟨a, b, c, rfl⟩
theorem len1 {α : Type} {l : List α} (h : l.length = 1) : ∃ a, l = [a] := by
  match l, h with
  | [a], _ => exact ⟨a, rfl⟩
theorem len4 {α : Type} {l : List α} (h : l.length = 4) : ∃ a b c d, l = [a, b, c, d] := by
  match l, h with
  | [a, b, c, d], _ => exact ⟨a, b, c, d, rfl⟩
theorem flat_strs (l : List ByteArray) : flat (fun s => [Value.string s]) l = strs l := by
  induction l with
  | nil => rfl
  | cons a l ih => simp only [flat, strs, List.flatMap_cons, List.map_cons] at ih ⊢; rw [ih]; rfl

section
variable {H : Type} {enc : TypeId × Value → H} {P : Program} {w : World} {base : Nat} {spare : Nat → Bool} {held : Bool} {fuel : Nat} {cs : List Value} {x : DataW H × List MemPlace}
/-- A slice of such things. -/
theorem trod_slP {α : Type} {t e : TypeId} {s : Nat} {encA : α → List Value} {Q : α → Prop} (ht : P.underlying t = some (.slice e)) (hC : P.cellsOf e = s) (h0 : 0 < s) (hl : ∀ a, (encA a).length = s)
    (hel : ∀ (fuel : Nat) (cs : List Value) (x : DataW H × List MemPlace), DataW.trod enc P w base spare held fuel e cs = some x → ∃ a, cs = encA a ∧ Q a)
    (h : DataW.trod enc P w base spare held fuel t cs = some x) : ∃ A n c xs, cs = [.slice A n c] ∧ Sl w w.heap.size s A n (flat encA xs) ∧ n ≤ c ∧ c ≤ maxLen ∧ ∀ a ∈ xs, Q a := by
  rcases open_slice ht h with ⟨rfl, _⟩ | ⟨a, len, cap, m, n, D, Pl, rfl, _, hlc, hcm, hm, _, hi⟩
  · exact ⟨none, 0, 0, [], rfl, Sl.nil _ _ _ _, Nat.le_refl _, Nat.zero_le _, fun a ha => by cases ha⟩
  · have hlm : len ≤ m := by rw [hm]; split <;> omega
    obtain ⟨xs, hxl, hxs⟩ := list_of (p := fun i (y : α) => w.cells? base (a.add (i * s)) s = some (encA y) ∧ Q y) len (fun i hi' => by
      obtain ⟨cs', hc, ht'⟩ := hi i (by omega)
      obtain ⟨y, rfl, hq⟩ := hel _ _ _ ht'
      rw [hC] at hc
      exact ⟨y, hc, hq⟩)
    refine ⟨some a, len, cap, xs, rfl, ⟨by rw [flat_len hl, hxl], fun hn => ?_⟩, hlc, hcm, fun y hy => ?_⟩
    · have hcell : ∀ (k j : Nat) (y : α), xs[k]? = some y → j < s → w.cell? ((a.add (k * s)).add j) = (encA y)[j]? := fun k j y hy hj => (World.cells?_some (hxs k y hy).1).2.2 j hj
      have hx0 : xs[0]? = some (xs[0]'(by omega)) := List.getElem?_eq_getElem (by omega)
      have hsome : ∃ v, w.cell? a = some v := by
        have := hcell 0 0 _ hx0 h0
        have hg : (encA (xs[0]'(by omega)))[0]? = some ((encA (xs[0]'(by omega)))[0]'(by rw [hl]; exact h0)) := List.getElem?_eq_getElem (by rw [hl]; exact h0)
        rw [hg] at this
        simp [Addr.add] at this
        exact ⟨_, this⟩
      obtain ⟨v, hv⟩ := hsome
      have hsp := World.cell?_spot hv
      obtain ⟨b, off, sp⟩ := a
      simp only at hsp
      subst hsp
      refine ⟨b, off, rfl, ?_, fun j u hu => ?_⟩
      · unfold World.cell? at hv
        simp only at hv
        rcases Nat.lt_or_ge b w.heap.size with hb | hb
        · exact hb
        · rw [Array.getElem?_eq_none hb] at hv; cases hv
      · have hj : j < xs.length * s := by
          have := (List.getElem?_eq_some_iff.1 hu).1
          rwa [flat_len hl] at this
        have hk : j / s < xs.length := Nat.div_lt_of_lt_mul (by rwa [Nat.mul_comm] at hj)
        have hr : j % s < s := Nat.mod_lt _ h0
        have hy : xs[j / s]? = some (xs[j / s]'hk) := List.getElem?_eq_getElem hk
        have e : j / s * s + j % s = j := by rw [Nat.mul_comm]; exact Nat.div_add_mod j s
        have h1 := flat_get hl xs (j / s) (j % s) _ hy hr
        rw [e, hu] at h1
        have h2 := hcell (j / s) (j % s) _ hy hr
        rw [← h1, Go.Deep.add_add, e] at h2
        rw [← h2]
        congr 1
        unfold Addr.add
        split
        · rename_i hz; subst hz; rfl
        · rfl
    · obtain ⟨i, hi', rfl⟩ := List.getElem_of_mem hy
      exact (hxs i _ (List.getElem?_eq_getElem hi')).2
theorem trod_strsP {t s : TypeId} (ht : P.underlying t = some (.slice s)) (hs : P.underlying s = some .string) (hc : P.cellsOf s = 1) (h : DataW.trod enc P w base spare held fuel t cs = some x) :
    ∃ A n c l, cs = [.slice A n c] ∧ Sl w w.heap.size 1 A n (strs l) ∧ n ≤ c ∧ c ≤ maxLen ∧ ∀ a ∈ l, a.size ≤ maxLen := by
  obtain ⟨A, n, c, l, h1, h2, h3, h4, h5⟩ := trod_slP (encA := fun s : ByteArray => [Value.string s]) (Q := fun a => a.size ≤ maxLen) ht hc (by omega) (fun _ => rfl) (fun _ _ _ hh => by
    obtain ⟨a, ha, _, hz⟩ := DataW.trod_string hs hh
    exact ⟨a, ha, hz⟩) h
  rw [flat_strs] at h2
  exact ⟨A, n, c, l, h1, h2, h3, h4, h5⟩
theorem trod_flP {t s : TypeId} {f0 f1 : Field} (ht : P.underlying t = some (.struct #[f0, f1])) (o0 : f0.offset = 0) (o1 : f1.offset = 1) (t0 : f0.type = s) (t1 : f1.type = s) (hs : P.underlying s = some .string)
    (hC : P.cellsOf t = 2) (hcs : P.cellsOf s = 1) (h : DataW.trod enc P w base spare held fuel t cs = some x) : ∃ f : Fl, cs = flC f ∧ f.1.size ≤ maxLen ∧ f.2.size ≤ maxLen := by
  obtain ⟨xs, m, _, _, hlen, hxl, hf⟩ := DataW.trod_struct ht h
  rw [hC] at hlen
  obtain ⟨c0, c1, rfl⟩ := len2 hlen
  obtain ⟨y0, y1, rfl⟩ := len2 hxl
  have h0 := hf 0 f0 rfl
  have h1 := hf 1 f1 rfl
  rw [o0, t0, hcs] at h0
  rw [o1, t1, hcs] at h1
  simp at h0 h1
  obtain ⟨a, ha, _, hz⟩ := DataW.trod_string hs h0
  obtain ⟨b, hb, _, hz2⟩ := DataW.trod_string hs h1
  simp at ha hb
  exact ⟨(a, b), by rw [ha, hb]; rfl, hz, hz2⟩
theorem trod_tgP {t s i l : TypeId} {f0 f1 f2 f3 : Field} (ht : P.underlying t = some (.struct #[f0, f1, f2, f3])) (o0 : f0.offset = 0) (o1 : f1.offset = 1) (o2 : f2.offset = 2) (o3 : f3.offset = 3)
    (t0 : f0.type = s) (t1 : f1.type = i) (t2 : f2.type = l) (t3 : f3.type = l) (hs : P.underlying s = some .string) (hi : P.underlying i = some (.int .i64)) (hl : P.underlying l = some (.slice s))
    (hC : P.cellsOf t = 4) (hcs : P.cellsOf s = 1) (hci : P.cellsOf i = 1) (hcl : P.cellsOf l = 1) (h : DataW.trod enc P w base spare held fuel t cs = some x) : ∃ g : Tg, cs = tgC g ∧ TgOk w w.heap.size g := by
  obtain ⟨xs, m, _, _, hlen, hxl, hf⟩ := DataW.trod_struct ht h
  rw [hC] at hlen
  obtain ⟨c0, c1, c2, c3, rfl⟩ := len4 hlen
  obtain ⟨y0, y1, y2, y3, rfl⟩ := len4 hxl
  have h0 := hf 0 f0 rfl
  have h1 := hf 1 f1 rfl
  have h2 := hf 2 f2 rfl
  have h3 := hf 3 f3 rfl
  rw [o0, t0, hcs] at h0
  rw [o1, t1, hci] at h1
  rw [o2, t2, hcl] at h2
  rw [o3, t3, hcl] at h3
  simp at h0 h1 h2 h3
  obtain ⟨a, ha, _, hz⟩ := DataW.trod_string hs h0
  obtain ⟨k, hk, _⟩ := DataW.trod_int hi h1
  obtain ⟨A, n, c, dl, hd, d1, d2, d3, d4⟩ := trod_strsP hl hs hcs h2
  obtain ⟨A', n', c', vl, hv, v1, v2, v3, v4⟩ := trod_strsP hl hs hcs h3
  simp at ha hk hd hv
  exact ⟨⟨a, k, A, n, c, dl, A', n', c', vl⟩, by rw [ha, hk, hd, hv]; rfl, ⟨d1, d2, d3, v1, v2, v3, hz, d4, v4⟩⟩
theorem trod_grP {t l e s i m : TypeId} {f0 g0 g1 g2 g3 : Field} (ht : P.underlying t = some (.struct #[f0])) (o0 : f0.offset = 0) (t0 : f0.type = l) (hl : P.underlying l = some (.slice e)) (he : P.underlying e = some (.struct #[g0, g1, g2, g3]))
    (p0 : g0.offset = 0) (p1 : g1.offset = 1) (p2 : g2.offset = 2) (p3 : g3.offset = 3) (q0 : g0.type = s) (q1 : g1.type = i) (q2 : g2.type = m) (q3 : g3.type = m) (hs : P.underlying s = some .string) (hi : P.underlying i = some (.int .i64)) (hm : P.underlying m = some (.slice s))
    (hC : P.cellsOf t = 1) (hcl : P.cellsOf l = 1) (hce : P.cellsOf e = 4) (hcs : P.cellsOf s = 1) (hci : P.cellsOf i = 1) (hcm : P.cellsOf m = 1) (h : DataW.trod enc P w base spare held fuel t cs = some x) :
    ∃ A n c ts, cs = [.slice A n c] ∧ Sl w w.heap.size 4 A n (flat tgC ts) ∧ n ≤ c ∧ c ≤ maxLen ∧ ∀ t ∈ ts, TgOk w w.heap.size t := by
  obtain ⟨xs, _, _, _, hlen, hxl, hf⟩ := DataW.trod_struct ht h
  rw [hC] at hlen
  obtain ⟨c0, rfl⟩ := len1 hlen
  obtain ⟨y0, rfl⟩ := len1 hxl
  have h0 := hf 0 f0 rfl
  rw [o0, t0, hcl] at h0
  simp at h0
  exact trod_slP (encA := tgC) (Q := fun t => TgOk w w.heap.size t) hl hce (by omega) tgC_len (fun _ _ _ hh => trod_tgP he p0 p1 p2 p3 q0 q1 q2 q3 hs hi hm hce hcs hci hcm hh) h0
end

section
variable {H : Type} {enc : TypeId × Value → H} {W : World} {base : Nat} {v : Value} {d : DataW H} {p : List MemPlace} {r : Reach} {b0 : Nat} {sp : Nat → Bool} {held : Bool}
set_option maxRecDepth 100000 in
theorem open_str (hv : Value.okWide Tryz.prog W r b0 9 v) (h : DataW.Trod enc Tryz.prog W base sp held 9 v d p) : ∃ s : ByteArray, v = .string s ∧ s.size ≤ maxLen := by
  obtain ⟨s, rfl⟩ := okWide_string Tryz.underlying9 hv
  obtain ⟨fuel, hf⟩ := h
  obtain ⟨s', he, _, hz⟩ := DataW.trod_string Tryz.underlying9 hf
  have e1 : [Value.string s] = [Value.string s'] := he
  simp at e1
  exact ⟨s, rfl, by rw [e1]; exact hz⟩
set_option maxRecDepth 100000 in
theorem open_int (hv : Value.okWide Tryz.prog W r b0 3 v) : ∃ z : Int, v = .int .i64 z := okWide_int Tryz.underlying3 hv
set_option maxRecDepth 100000 in
theorem open_files (hv : Value.okWide Tryz.prog W r b0 22 v) (h : DataW.Trod enc Tryz.prog W base sp held 22 v d p) : ∃ A n c fs, v = .slice A n c ∧ Sl W W.heap.size 2 A n (flat flC fs) ∧ n ≤ c ∧ c ≤ maxLen ∧ ∀ f ∈ fs, f.1.size ≤ maxLen ∧ f.2.size ≤ maxLen := by
  obtain ⟨A, n, c, rfl⟩ := okWide_slice Tryz.underlying22 hv
  obtain ⟨fuel, hf⟩ := h
  obtain ⟨A', n', c', us, he, h1, h2, h3, h4⟩ := trod_slP (encA := flC) (Q := fun f => f.1.size ≤ maxLen ∧ f.2.size ≤ maxLen) Tryz.underlying22 cellsFl (by omega) flC_len (fun _ _ _ hh => trod_flP Tryz.underlying42 rfl rfl rfl rfl Tryz.underlying9 cellsFl cellsStr hh) hf
  refine ⟨A', n', c', us, ?_, h1, h2, h3, h4⟩
  have : [Value.slice A n c] = [Value.slice A' n' c'] := he
  simpa using this
set_option maxRecDepth 100000 in
theorem open_strs (hv : Value.okWide Tryz.prog W r b0 33 v) (h : DataW.Trod enc Tryz.prog W base sp held 33 v d p) : ∃ A n c l, v = .slice A n c ∧ Sl W W.heap.size 1 A n (strs l) ∧ n ≤ c ∧ c ≤ maxLen ∧ ∀ f ∈ l, f.size ≤ maxLen := by
  obtain ⟨A, n, c, rfl⟩ := okWide_slice Tryz.underlying33 hv
  obtain ⟨fuel, hf⟩ := h
  obtain ⟨A', n', c', us, he, h1, h2, h3, h4⟩ := trod_strsP Tryz.underlying33 Tryz.underlying9 cellsStr hf
  refine ⟨A', n', c', us, ?_, h1, h2, h3, h4⟩
  have : [Value.slice A n c] = [Value.slice A' n' c'] := he
  simpa using this
set_option maxRecDepth 100000 in
theorem open_tgs (hv : Value.okWide Tryz.prog W r b0 25 v) (h : DataW.Trod enc Tryz.prog W base sp held 25 v d p) : ∃ A n c ts, v = .slice A n c ∧ Sl W W.heap.size 4 A n (flat tgC ts) ∧ n ≤ c ∧ c ≤ maxLen ∧ ∀ t ∈ ts, TgOk W W.heap.size t := by
  obtain ⟨A, n, c, rfl⟩ := okWide_slice Tryz.underlying25 hv
  obtain ⟨fuel, hf⟩ := h
  obtain ⟨A', n', c', us, he, h1, h2, h3, h4⟩ := trod_slP (encA := tgC) (Q := fun t => TgOk W W.heap.size t) Tryz.underlying25 cellsTg (by omega) tgC_len (fun _ _ _ hh => trod_tgP Tryz.underlying35 rfl rfl rfl rfl rfl rfl rfl rfl Tryz.underlying9 Tryz.underlying3 Tryz.underlying33 cellsTg cellsStr cellsInt cellsStrs hh) hf
  refine ⟨A', n', c', us, ?_, h1, h2, h3, h4⟩
  have : [Value.slice A n c] = [Value.slice A' n' c'] := he
  simpa using this
set_option maxRecDepth 100000 in
theorem open_graph (hv : Value.okWide Tryz.prog W r b0 27 v) (h : DataW.Trod enc Tryz.prog W base sp held 27 v d p) : ∃ A n c ts, v = .agg #[.slice A n c] ∧ Sl W W.heap.size 4 A n (flat tgC ts) ∧ n ≤ c ∧ c ≤ maxLen ∧ ∀ t ∈ ts, TgOk W W.heap.size t := by
  obtain ⟨cs, rfl, hsz⟩ := okWide_struct Tryz.underlying27 hv
  obtain ⟨fuel, hf⟩ := h
  obtain ⟨A, n, c, ts, he, k⟩ := trod_grP Tryz.underlying27 rfl rfl Tryz.underlying25 Tryz.underlying35 rfl rfl rfl rfl rfl rfl rfl rfl Tryz.underlying9 Tryz.underlying3 Tryz.underlying33 cellsGr cellsTgs cellsTg cellsStr cellsInt cellsStrs hf
  refine ⟨A, n, c, ts, ?_, k⟩
  have : cs.toList = [.slice A n c] := he
  rw [show cs = #[.slice A n c] by rw [← Array.toArray_toList (xs := cs), this]]
end
end Go.Proofs.YtddlohbhchjjhaaGreatDoor

namespace Go.Proofs.YtddlohbhchjjhaaGreatDoor
open Go.ChangeShapes Go.WideShapes Go.ChangeAt Go.RowKit Go.Joins Go.Deep

theorem own : ownKnob Tryz.prog.godebug = none := by kernel_rfl
theorem laidOut : laidOutB Tryz.prog = true := by kernel_rfl

section
variable {H : Type} {enc : TypeId × Value → H} {W : World} {v : Value} {d : DataW H} {p : List MemPlace} {sp : Nat → Bool}
/-- an argument reads as it did -/
theorem keep {W' : World} {t : TypeId} (hr : Tryz.prog.readableRec t = true) (hrow : t < Tryz.prog.types.size) (h : DataW.Trod enc Tryz.prog W 0 (fun _ => true) true t v d p) (hb : Below W.heap.size W W') (hlt : ∀ x ∈ p, x.block < W.heap.size) (hsp : ∀ x ∈ p, sp x.block = true) :
    DataW.Trod enc Tryz.prog W' 0 sp true t v d p :=
  WideElems.Trod_stays laidOut hr hrow h (fun x hx => hb.same (hlt x hx)) hsp
end

/-- The last step, where only 'Below' is known of the world behind the call: after the guide's lemma of that name. -/
theorem post_below {H : Type} {enc : TypeId × Value → H} {P : Program} {f : Func} {s : ChangeSpec} {apart fresh handsOn again : Bool} {W W' : World} {args : Array Value} {v : Value} {ds gs : List (DataW H)} {before pa pv : List MemPlace}
    (hW : DataW.Whole enc P f.params.toList s.vars apart W args.toList ds gs before)
    (hres : ∀ (b : Nat) (sp : Nat → Bool) (hd : Bool), DataW.TrodAll enc P W' b sp hd f.resultTypes.toList (v.resultList f.resultTypes.size) (s.fn H (ds ++ gs)).results [])
    (hargs : ∀ sp : Nat → Bool, (∀ p ∈ before, sp p.block = true) → DataW.TrodAll enc P W' 0 sp true f.params.toList args.toList (s.fn H (ds ++ gs)).args pa)
    (hvars : ∀ sp : Nat → Bool, (∀ p ∈ before, sp p.block = true) → DataW.TrodVars enc P W' sp s.vars (s.fn H (ds ++ gs)).vars pv)
    (hps : before = pa ++ pv) (hb : Below W.heap.size W W')
    (hok : ∀ (j : Nat) (t : TypeId) (r : Value), f.resultTypes[j]? = some t → (v.resultList f.resultTypes.size)[j]? = some r → Value.okWide P W' .any 0 t r) :
    s.post enc P f apart fresh handsOn again W args v W' := by
  have hlt : ∀ p ∈ before, p.block < W.heap.size := fun p hp => hW.lt p hp
  have hold : ∀ p ∈ before, (fun b => decide (b < W.heap.size)) p.block = true := fun p hp => by simpa using hlt p hp
  refine ⟨ds, gs, before, [], pa, pv, hW, hres _ _ _, hargs _ hold, hvars _ hold, World.keptBut_mono (fun p hp => ⟨hp, ?_⟩) (hb.frame (· ∈ before)), fun _ => ?_⟩
  · rw [hps, List.mem_append] at hp
    exact Or.inr hp
  · obtain ⟨_, _, _, _, _, hz, hn⟩ := hW
    refine ⟨hok, _, _, ([] ++ pa) ++ pv, ⟨[] ++ pa, pv, trodAll_append (hargs _ (fun _ _ => rfl)) (hres _ _ _), hvars _ (fun _ _ => rfl), rfl, ?_, ?_⟩, ?_⟩
    · intro b off hp
      have hin : MemPlace.cell b off ∈ before := by rw [hps]; simpa using hp
      rw [hb.frozen (hlt _ hin)]
      exact hz b off hin
    · intro ha
      have := hn ha
      rw [hps] at this
      simpa using this
    · intro p hp _
      rw [hps]
      simpa using hp

/-- The witness's world: the settled one, the two listed variables holding what their initialisers lay. -/
noncomputable def laidWorld (os : Os) : World :=
  let w0 := World.holding Tryz.prog os ⟨#[], #[], []⟩
  let put (h : Array Obj) (g : Nat) (cs : Array Value) : Array Obj := h.modify g fun
    | .cells _ t frozen => .cells cs t frozen
    | o => o
  let h1 := put w0.heap 1 (Go.Pinned.utf8FirstZ.map fun (z : Nat) => Value.int .u8 (z : Int)).toArray
  let h2 := put h1 2 (([128, 191, 160, 191, 128, 159, 144, 191, 128, 143].map fun (z : Int) => Value.int .u8 z) ++ List.replicate 22 (Value.int .u8 0)).toArray
  { w0 with heap := h2 }
set_option maxRecDepth 100000 in
theorem laid_met (os : Os) (args : Array Value) : laidMet Tryz.prog [("unicode/utf8.acceptRanges", Rows.laid_unicode_utf8_acceptRanges), ("unicode/utf8.first", Rows.laid_unicode_utf8_first)] ((laidWorld os).forCall (fun _ _ => 0) ⟨#[], args, []⟩).memory :=
  (LaidIn.of_run (l := [("unicode/utf8.acceptRanges", Rows.laid_unicode_utf8_acceptRanges), ("unicode/utf8.first", Rows.laid_unicode_utf8_first)]) [2, 1] 8 (by kernel_rfl) (by kernel_rfl) (by kernel_rfl) (by kernel_rfl)).met
end Go.Proofs.YtddlohbhchjjhaaGreatDoor

namespace Go.Proofs
open Go.Shelf
def Tryz.sortTgt_ren : Go.Shelf.Ren := ⟨fun | 6 => 50 | 15 => 86 | 14 => 96 | 28 => 127 | 29 => 128 | 20 => 143 | 21 => 144 | 22 => 145 | 23 => 146 | 24 => 147 | 25 => 148 | 26 => 149 | 27 => 150 | 46 => 192 | 47 => 171 | 48 => 172 | 49 => 193 | 50 => 194 | 57 => 227 | n => n, fun | 22 => 25 | 24 => 35 | 25 => 72 | 3 => 3 | 39 => 117 | 0 => 0 | 53 => 155 | 55 => 120 | 4 => 4 | 46 => 149 | 45 => 148 | 50 => 90 | 5 => 5 | 9 => 9 | 66 => 193 | 70 => 197 | 76 => 229 | 77 => 230 | n => n, fun | n => n⟩
theorem Tryz.sortTgt : Go.Proofs.SlLaysF0.n6 Tryz.prog Tryz.sortTgt_ren := {
  mixed := by kernel_rfl
  f6 := ⟨Tryz.f50.name, by decide, Tryz.func50.trans (congrArg some (by kernel_rfl))⟩
  f14 := ⟨Tryz.f96.name, by decide, Tryz.func96.trans (congrArg some (by kernel_rfl))⟩
  f15 := Tryz.func86.trans (congrArg some (by kernel_rfl))
  f20 := ⟨Tryz.f143.name, by decide, Tryz.func143.trans (congrArg some (by kernel_rfl))⟩
  f21 := ⟨Tryz.f144.name, by decide, Tryz.func144.trans (congrArg some (by kernel_rfl))⟩
  f22 := ⟨Tryz.f145.name, by decide, Tryz.func145.trans (congrArg some (by kernel_rfl))⟩
  f23 := ⟨Tryz.f146.name, by decide, Tryz.func146.trans (congrArg some (by kernel_rfl))⟩
  f24 := ⟨Tryz.f147.name, by decide, Tryz.func147.trans (congrArg some (by kernel_rfl))⟩
  f25 := ⟨Tryz.f148.name, by decide, Tryz.func148.trans (congrArg some (by kernel_rfl))⟩
  f26 := ⟨Tryz.f149.name, by decide, Tryz.func149.trans (congrArg some (by kernel_rfl))⟩
  f27 := ⟨Tryz.f150.name, by decide, Tryz.func150.trans (congrArg some (by kernel_rfl))⟩
  f28 := Tryz.func127.trans (congrArg some (by kernel_rfl))
  f29 := Tryz.func128.trans (congrArg some (by kernel_rfl))
  f46 := ⟨Tryz.f192.name, by decide, Tryz.func192.trans (congrArg some (by kernel_rfl))⟩
  f47 := Tryz.func171.trans (congrArg some (by kernel_rfl))
  f48 := Tryz.func172.trans (congrArg some (by kernel_rfl))
  f49 := ⟨Tryz.f193.name, by decide, Tryz.func193.trans (congrArg some (by kernel_rfl))⟩
  f50 := ⟨Tryz.f194.name, by decide, Tryz.func194.trans (congrArg some (by kernel_rfl))⟩
  f57 := ⟨Tryz.f227.name, by decide, Tryz.func227.trans (congrArg some (by kernel_rfl))⟩
  t0 := Tryz.underlying0
  a0 := Tryz.isAgg0
  z0 := Tryz.sizeOf0
  v0 := Tryz.zeroValue0
  t3 := Tryz.underlying3
  a3 := Tryz.isAgg3
  z3 := Tryz.sizeOf3
  v3 := Tryz.zeroValue3
  t4 := Tryz.underlying4
  a4 := Tryz.isAgg4
  z4 := Tryz.sizeOf4
  v4 := Tryz.zeroValue4
  t5 := Tryz.underlying5
  a5 := Tryz.isAgg5
  z5 := Tryz.sizeOf5
  v5 := Tryz.zeroValue5
  t9 := Tryz.underlying9
  a9 := Tryz.isAgg9
  z9 := Tryz.sizeOf9
  v9 := Tryz.zeroValue9
  t22 := Tryz.underlying25
  a22 := Tryz.isAgg25
  z22 := Tryz.sizeOf25
  v22 := Tryz.zeroValue25
  t25 := Tryz.underlying72
  a25 := Tryz.isAgg72
  z25 := Tryz.sizeOf72
  v25 := Tryz.zeroValue72
  t39 := Tryz.underlying117
  a39 := Tryz.isAgg117
  z39 := Tryz.sizeOf117
  v39 := Tryz.zeroValue117
  t45 := Tryz.underlying148
  a45 := Tryz.isAgg148
  z45 := Tryz.sizeOf148
  v45 := Tryz.zeroValue148
  t46 := Tryz.underlying149
  a46 := Tryz.isAgg149
  z46 := Tryz.sizeOf149
  v46 := Tryz.zeroValue149
  t50 := Tryz.underlying90
  a50 := Tryz.isAgg90
  z50 := Tryz.sizeOf90
  v50 := Tryz.zeroValue90
  t53 := Tryz.underlying155
  a53 := Tryz.isAgg155
  z53 := Tryz.sizeOf155
  v53 := Tryz.zeroValue155
  t55 := Tryz.underlying120
  a55 := Tryz.isAgg120
  z55 := Tryz.sizeOf120
  v55 := Tryz.zeroValue120
  t66 := Tryz.underlying193
  a66 := Tryz.isAgg193
  z66 := Tryz.sizeOf193
  v66 := Tryz.zeroValue193
  t70 := Tryz.underlying197
  a70 := Tryz.isAgg197
  z70 := Tryz.sizeOf197
  v70 := Tryz.zeroValue197
  t76 := Tryz.underlying229
  a76 := Tryz.isAgg229
  z76 := Tryz.sizeOf229
  v76 := Tryz.zeroValue229
  t77 := Tryz.underlying230
  a77 := Tryz.isAgg230
  z77 := Tryz.sizeOf230
  v77 := Tryz.zeroValue230 }
end Go.Proofs

namespace Go.Proofs.YtddlohbhchjjhaaGreatDoor
open Go.RowKit Go.Shelf

def nameA : ByteArray := ⟨#[97]⟩
theorem lab_a : labB nameA = true := by decide
theorem res_a : resB nameA = false := by decide
theorem idx_a : decide (0 ≤ Lib.indexByte nameA.data.toList 47) = false := by decide
set_option maxHeartbeats 400000 in
theorem freeA_any (w : World) : Calls Tryz.prog 163 #[.string nameA] w fun e w' => e = .returned (.bool true) ∧ Below w.heap.size w w' := by
  have HN : Hid (Calls Tryz.prog 142 #[.string nameA] w fun e w' => e = .returned (.bool true) ∧ Below w.heap.size w w') := by
    show Calls _ _ _ _ _
    go_enter Tryz.func142, Tryz.ntmps142
    go_wp2_with (first
      | (go_at_call 79; refine (label_any _ _ (by decide)).mono ?_; rintro e w1 ⟨rfl, hb⟩; rw [lab_a])
      | (go_at_call 191; refine (Tryz.strings_Contains_one _ _ _).mono ?_; rintro e w1 ⟨rfl, rfl⟩; rw [idx_a]))
    go_ret
    exact ⟨rfl, hb⟩
  go_enter Tryz.func163, Tryz.ntmps163
  go_wp2_with (first
    | (go_at_call 142; refine HN.out.mono ?_; rintro e w1 ⟨rfl, hb⟩)
    | (go_at_call 216; refine (reserved_any _ _).mono ?_; rintro e w2 ⟨rfl, rfl⟩; rw [res_a]))
  go_ret
  exact ⟨rfl, hb⟩
set_option maxRecDepth 100000 in
set_option maxHeartbeats 1000000 in
theorem checkRule_any (A : Option Addr) (n c B : Nat) (l : List ByteArray) (w : World) (h : Sl w B 1 A n (strs l)) (hB : B ≤ w.heap.size) (hn : n ≤ c) (hc : c ≤ maxLen) (hls : ∀ x ∈ l, x.size ≤ maxLen) :
    Calls Tryz.prog 114 #[.agg #[.int .i64 1, .string nameA, .slice none 0 0, .slice A n c]] w fun e w' => e = .returned (.int .i64 (visE l)) ∧ Below w.heap.size w w' := by
  have H := Lib.hid h; have HLS := Lib.hid hls
  have HLL : Hid (l.length = n) := by have := h.1; rw [strs_len] at this; show _ = _; omega
  clear h hls
  have hnm : n ≤ 9223372036854775807 := by unfold maxLen at hc; omega
  have HB0 : Hid (Below w.heap.size w (w.alloc (.cells #[.int .i64 1, .string nameA, .slice none 0 0, .slice A n c] 60))) := (Below.refl _ w).alloc (Nat.le_refl _) _
  have hk0 : Bk (w.alloc (.cells #[.int .i64 1, .string nameA, .slice none 0 0, .slice A n c] 60)) w.heap.size 60 #[.int .i64 1, .string nameA, .slice none 0 0, .slice A n c] := Bk.new w _ _
  have HK0 := Lib.hid hk0
  clear hk0
  go_enter Tryz.func114, Tryz.ntmps114
  go_wp2_with (go_at_call 163; refine (freeA_any _).mono ?_; rintro e w1 ⟨rfl, hb1⟩; refine halt_ ?_)
  refine unhalt ?_
  have HK1 := Lib.hid (HK0.out.below hb1 (by simp))
  have HB1 : Hid (Below w.heap.size w w1) := HB0.out.trans (hb1.mono (by simp))
  have u2 := HK1.out.cell 2; have u3 := HK1.out.cell 3
  simp only [List.getElem?_toArray, List.getElem?_cons_succ, List.getElem?_cons_zero] at u2 u3
  clear hb1
  by_cases hlong : 20 < n
  · have hF : Hid (visE l = 4) := by show _ = _; unfold visE; rw [if_pos (by rw [HLL.out]; exact hlong)]
    have hlz : (20 : Int) < (n : Int) := by omega
    go_wp2_with fail
    go_ret
    exact ⟨ret_int hF.out.symm, HB1.out⟩
  · have hF : Hid (visE l = elE viewB [] l) := by show _ = _; unfold visE; rw [if_neg (by rw [HLL.out]; exact hlong)]
    have hlz : ¬ (20 : Int) < (n : Int) := by omega
    have HV := Lib.hid (checkView_any A n c B l w1 (H.out.below HB1.out hB) (Nat.le_trans hB HB1.out.size) hn hc HLS.out)
    go_wp2_with (go_at_call 164; refine (checkNone_any none 0 _ _).mono ?_; rintro e w2 ⟨rfl, rfl⟩; refine halt_ ?_)
    refine unhalt ?_
    go_wp2_with (go_at_call 164; refine HV.out.mono ?_; rintro e w2 ⟨rfl, hb2⟩)
    go_ret
    exact ⟨ret_int hF.out.symm, HB1.out.trans (hb2.mono HB1.out.size)⟩
set_option maxHeartbeats 400000 in
theorem indexNone_any (A : Option Addr) (c : Nat) (f : Value) (w : World) : Calls Tryz.prog 167 #[.slice A 0 c, f] w fun e w' => e = .returned (.int .i64 (-1)) ∧ w = w' := by
  go_enter Tryz.func167, Tryz.ntmps167
  go_wp2
  go_loop [8] (fun i => i = .int .i64 0) (fun _ => 0)
  case atStart => rfl
  case round =>
    subst hrel
    go_wp2
    go_ret
    exact ⟨rfl, rfl⟩
set_option maxHeartbeats 400000 in
theorem containsNone_any (A : Option Addr) (c : Nat) (f : Value) (w : World) : Calls Tryz.prog 115 #[.slice A 0 c, f] w fun e w' => e = .returned (.bool false) ∧ w = w' := by
  go_enter Tryz.func115, Tryz.ntmps115
  go_wp2_with (go_at_call 167; refine (indexNone_any _ _ _ _).mono ?_; rintro e w2 ⟨rfl, rfl⟩)
  go_ret
  exact ⟨rfl, rfl⟩
theorem infoRule : (Tryz.prog.info? 60).map (fun i => (i.zero, i.size, i.bytes)) = some (some (.agg #[.int .i64 0, .string ⟨#[]⟩, .slice none 0 0, .slice none 0 0]), 4, 72) := by kernel_rfl
set_option maxRecDepth 100000 in
set_option maxHeartbeats 2000000 in
/-- the one rule lies in block b -/
theorem checkOne_any (A : Option Addr) (n c B b : Nat) (l : List ByteArray) (w : World) (h : Sl w B 1 A n (strs l)) (hB : B ≤ w.heap.size) (hn : n ≤ c) (hc : c ≤ maxLen) (hls : ∀ x ∈ l, x.size ≤ maxLen) (hk : Bk w b 60 #[.int .i64 1, .string nameA, .slice none 0 0, .slice A n c]) :
    Calls Tryz.prog 81 #[.slice (some ⟨b, 0, none⟩) 1 1] w fun e w' => e = .returned (.int .i64 (visE l)) ∧ Below w.heap.size w w' := by
  have H := Lib.hid h; have HLS := Lib.hid hls; have HK := Lib.hid hk
  clear h hls hk
  have u0 := HK.out.cell 0; have u1 := HK.out.cell 1; have u2 := HK.out.cell 2; have u3 := HK.out.cell 3
  simp only [List.getElem?_toArray, List.getElem?_cons_succ, List.getElem?_cons_zero] at u0 u1 u2 u3
  go_enter Tryz.func81, Tryz.ntmps81
  go_wp2
  go_loopw [11] (fun i wr => (i = .int .i64 0 ∧ wr = w) ∨ (i = .int .i64 1 ∧ Hid (visE l = 0) ∧ Hid (Below w.heap.size w wr))) (fun i _ => 1 - (intOf i).toNat)
  case atStart => exact .inl ⟨rfl, rfl⟩
  case round =>
    rcases hrel with ⟨rfl, rfl⟩ | ⟨rfl, hE, hBel⟩
    · have HB0 : Hid (Below wr.heap.size wr (wr.alloc (.cells #[.int .i64 1, .string nameA, .slice none 0 0, .slice A n c] 60))) := (Below.refl _ wr).alloc (Nat.le_refl _) _
      have HC := Lib.hid (checkRule_any A n c B l (wr.alloc (.cells #[.int .i64 1, .string nameA, .slice none 0 0, .slice A n c] 60)) (H.out.below HB0.out hB) (by simp; omega) hn hc HLS.out)
      have hsl : ∀ w' : World, (Instr.sliceAt 58 (.slice (some ⟨b, 0, none⟩) 1 1) none (some (.int .i64 0)) none).run Tryz.prog w' = .ok (.slice (some ⟨b, 0, none⟩) 0 1) w' := fun w' => by
        obtain ⟨i0, hi0, _⟩ := info_parts infoRule
        exact run_slice_to 58 i0 Tryz.underlying58 hi0 _ 1 1 0 (by omega) w'
      by_cases hv : visE l = 0
      · have HV := Lib.hid hv
        rw [hv] at HC
        clear hv
        go_wp2_with (go_at_call 114; refine HC.out.mono ?_; rintro e w2 ⟨rfl, hb2⟩; refine halt_ ?_)
        refine unhalt ?_
        have HB2 : Hid (Below wr.heap.size wr w2) := HB0.out.trans (hb2.mono (by simp))
        clear hb2
        go_wp2_with (go_at_call 115; refine (containsNone_any _ _ _ _).mono ?_; rintro e w3 ⟨rfl, rfl⟩)
        go_roundw
        case rel => exact .inr ⟨rfl, HV.out, HB2.out⟩
        case measure => simp [intOf]
      · have hv' : (visE l != 0) = true := by simpa using hv
        obtain ⟨v, hve⟩ : ∃ v, visE l = v := ⟨_, rfl⟩
        rw [hve] at HC hv'
        have HVE := Lib.hid hve
        clear hv hve
        go_wp2_with (go_at_call 114; refine HC.out.mono ?_; rintro e w2 ⟨rfl, hb2⟩)
        go_ret
        exact ⟨ret_int HVE.out.symm, HB0.out.trans (hb2.mono (by simp))⟩
    · go_wp2
      go_ret
      exact ⟨ret_int hE.out.symm, hBel.out⟩
end Go.Proofs.YtddlohbhchjjhaaGreatDoor

namespace Go.Proofs.YtddlohbhchjjhaaGreatDoor
open Go.RowKit Go.Maps

/-- an element reads as itself -/
def rawR (v : Value) : Option (DataW Value × List MemPlace) := some (.held v, [])
theorem rawR_inv {v u : Value} {ps : List MemPlace} (h : rawR v = some (.held u, ps)) : v = u := by
  simp [rawR] at h; exact h.1
/-- Block b is a map with at most N entries; g tells what a key has. -/
def Rm (w : World) (P : Program) (k : TypeId) (b N : Nat) (g : ByteArray → Option Value) : Prop :=
  ∃ D : DataW Value, w.ownsMap P k rawR b N D ∧ ∀ s : ByteArray, Maps.has D (.string s.data.toList) = (g s).isSome ∧ ∀ z, D.atKey (.string s.data.toList) (.held z) = .held ((g s).getD z)
def upd (g : ByteArray → Option Value) (s : ByteArray) (v : Value) : ByteArray → Option Value := fun t => if t = s then some v else g t
theorem upd_same (g : ByteArray → Option Value) (s : ByteArray) (v : Value) : upd g s v s = some v := by simp [upd]
theorem upd_other (g : ByteArray → Option Value) {s t : ByteArray} (v : Value) (h : t ≠ s) : upd g s v t = g t := by simp [upd, h]

section
variable {w w' : World} {P : Program} {k t e : TypeId} {b N : Nat} {g : ByteArray → Option Value}
theorem Rm.made (w : World) (P : Program) (k : TypeId) : Rm (w.alloc (.map #[] 0)) P k w.heap.size 0 (fun _ => none) :=
  ⟨.map [], World.ownsMap_made w P k rawR, fun _ => ⟨rfl, fun _ => rfl⟩⟩
theorem Rm.lt (h : Rm w P k b N g) : b < w.heap.size := h.choose_spec.1.lt
theorem Rm.more (h : Rm w P k b N g) {M : Nat} (hm : N ≤ M) : Rm w P k b M g := by
  obtain ⟨D, h1, h2⟩ := h; exact ⟨D, h1.mono hm, h2⟩
theorem Rm.kept {row : Option Nat} (h : Rm w P k b N g) (hg : w.grownBy w' row) (hr : some b ≠ row) : Rm w' P k b N g := by
  obtain ⟨D, h1, h2⟩ := h; exact ⟨D, h1.kept hg hr, h2⟩
theorem Rm.below {B : Nat} (h : Rm w P k b N g) (hb : Below B w w') (hB : b < B) : Rm w' P k b N g := by
  obtain ⟨D, ⟨es, clock, h1, h2⟩, h3⟩ := h
  exact ⟨D, ⟨es, clock, (hb.block b hB).trans h1, h2⟩, h3⟩
theorem Rm.alloc (h : Rm w P k b N g) (o : Obj) : Rm (w.alloc o) P k b N g := h.kept (World.grownBy_alloc w o none) (by simp)
theorem key_str (hk : P.underlying k = some .string) {s : ByteArray} (hs : s.size ≤ maxLen) : keyOf P k (.string s) = some (.string s.data.toList) := by simp [keyOf, hk, mapKey]; exact hs
theorem Rm.look (h : Rm w P k b N g) (hk : P.underlying k = some .string) (ht : P.underlying t = some (.map k e)) {z : Value} (hz : (zeroValue e).run P w = .ok z w) {s : ByteArray} (hs : s.size ≤ maxLen) :
    (Instr.lookup t (.map (some b)) (.string s) false).run P w = .ok ((g s).getD z) w := by
  obtain ⟨D, h1, h2⟩ := h
  obtain ⟨v, ps, hrun, hv⟩ := h1.lookup (string_keyed hk) ht hz (zd := .held z) (zp := []) rfl (key_str hk hs)
  rw [(h2 s).2 z] at hv
  rw [hrun, rawR_inv hv]
theorem Rm.look_ok (h : Rm w P k b N g) (hk : P.underlying k = some .string) (ht : P.underlying t = some (.map k e)) {z : Value} (hz : (zeroValue e).run P w = .ok z w) {s : ByteArray} (hs : s.size ≤ maxLen) :
    (Instr.lookup t (.map (some b)) (.string s) true).run P w = .ok (.tuple #[(g s).getD z, .bool (g s).isSome]) w := by
  obtain ⟨D, h1, h2⟩ := h
  obtain ⟨v, ps, hrun, hv⟩ := h1.look_ok (string_keyed hk) ht hz (zd := .held z) (zp := []) rfl (key_str hk hs)
  rw [(h2 s).2 z] at hv
  rw [hrun, rawR_inv hv, (h2 s).1]
theorem lit_ne {s r : ByteArray} (h : r ≠ s) : (Lit.string r.data.toList) ≠ .string s.data.toList := fun e => h (data_inj (by injection e))
theorem Rm.put (h : Rm w P k b N g) (hk : P.underlying k = some .string) (ht : P.underlying t = some (.map k e)) (hn : N < maxLen) {s : ByteArray} (hs : s.size ≤ maxLen) (v : Value) :
    ∃ w', (Instr.mapUpdate t (.map (some b)) (.string s) v).run P w = .ok () w' ∧ Rm w' P k b (N + 1) (upd g s v) ∧ w.grownBy w' (some b) := by
  obtain ⟨D, h1, h2⟩ := h
  obtain ⟨w', hrun, ho, hg⟩ := h1.update (string_keyed hk) ht hn (key_str hk hs) (d := .held v) (ps := []) rfl
  refine ⟨w', hrun, ⟨_, ho, fun r => ?_⟩, hg⟩
  have hkl := (string_keyed hk).key (key_str hk hs)
  by_cases hr : r = s
  · subst hr
    rw [upd_same, has_put_same h1.isMap hkl]
    exact ⟨rfl, fun z => atKey_put_same h1.isMap hkl _ _⟩
  · rw [upd_other _ _ hr, has_put_other (lit_ne hr)]
    exact ⟨(h2 r).1, fun z => (atKey_put_other (lit_ne hr) _ _).trans ((h2 r).2 z)⟩
/-- at the operation -/
theorem wpList_put_rm {ops : Array Oper} {rest : List Oper} {o : Oper} {a : Act} {Q : Exit → Act → World → Prop} (hgd : o.guard = none) (m x y : Operand) (t : TypeId) (hop : o.op = Op.mapUpdate t m x y)
    (k e : TypeId) (hk : P.underlying k = some .string) (ht : P.underlying t = some (.map k e)) (b N : Nat) (g : ByteArray → Option Value) (hm : a.eval m = .map (some b)) (h : Rm w P k b N g) (hn : N < maxLen)
    (s : ByteArray) (hs : s.size ≤ maxLen) (v : Value) (hx : a.eval x = .string s) (hy : a.eval y = v)
    (hK : ∀ w', Rm w' P k b (N + 1) (upd g s v) → w.grownBy w' (some b) → wpList P ops Q rest (a.put o.dst undef) w') : wpList P ops Q (o :: rest) a w := by
  refine wpList_plain hgd fun K' hK' => ?_
  obtain ⟨w', hrun, r1, r2⟩ := h.put hk ht hn hs v
  unfold Oper.wp
  simp [execOp, hop, hm, hx, hy, hrun, Result.andThen]
  exact hK' _ _ (hK w' r1 r2)

/-! ### ranging -/
/-- The map in block b is being ranged over by the iterator in block r: left are the keys that are still to come. -/
def RmR (w : World) (P : Program) (k : TypeId) (b r N : Nat) (g : ByteArray → Option Value) (left : ByteArray → Bool) (cnt : Nat) : Prop :=
  ∃ (D : DataW Value) (lf : Lit → Bool), w.ranges P k rawR b r N D lf cnt ∧ (∀ s : ByteArray, Maps.has D (.string s.data.toList) = (g s).isSome ∧ ∀ z, D.atKey (.string s.data.toList) (.held z) = .held ((g s).getD z)) ∧ ∀ s : ByteArray, lf (.string s.data.toList) = left s
variable {r cnt : Nat} {left : ByteArray → Bool}
theorem RmR.rm (h : RmR w P k b r N g left cnt) : Rm w P k b N g := by
  obtain ⟨D, lf, ⟨es, clock, since, seen, c0, hb, F, hs, hD, _⟩, h2, _⟩ := h
  exact ⟨D, ⟨es, clock, hb, F, hs, hD⟩, h2⟩
theorem RmR.kept {row : Option Nat} (h : RmR w P k b r N g left cnt) (hg : w.grownBy w' row) (hb : some b ≠ row) (hr : some r ≠ row) : RmR w' P k b r N g left cnt := by
  obtain ⟨D, lf, ⟨es, clock, since, seen, c0, h1, F, hs, hD, h3, h4⟩, h2, h5⟩ := h
  exact ⟨D, lf, ⟨es, clock, since, seen, c0, (hg.block b (Array.getElem?_eq_some_iff.1 h1).1 hb).trans h1, F, hs, hD, (hg.block r (Array.getElem?_eq_some_iff.1 h3).1 hr).trans h3, h4⟩, h2, h5⟩
theorem RmR.below {B : Nat} (h : RmR w P k b r N g left cnt) (hw : Below B w w') (hb : b < B) (hr : r < B) : RmR w' P k b r N g left cnt := by
  obtain ⟨D, lf, ⟨es, clock, since, seen, c0, h1, F, hs, hD, h3, h4⟩, h2, h5⟩ := h
  exact ⟨D, lf, ⟨es, clock, since, seen, c0, (hw.block b hb).trans h1, F, hs, hD, (hw.block r hr).trans h3, h4⟩, h2, h5⟩
theorem RmR.left_ (h : RmR w P k b r N g left cnt) : w.rangeLeft b r = cnt := by
  obtain ⟨D, lf, ⟨es, clock, since, seen, c0, h1, F, hs, hD, h3, _, h4, _⟩, _⟩ := h
  simp [World.rangeLeft, h1, h3, h4]
theorem key_inv (hk : P.underlying k = some .string) {key : Value} {kl : Lit} (h : keyOf P k key = some kl) : ∃ s : ByteArray, key = .string s ∧ kl = .string s.data.toList ∧ s.size ≤ maxLen := by
  cases key <;> simp [keyOf, hk, mapKey] at h
  exact ⟨_, rfl, h.2.symm, h.1⟩
theorem same_str (s z : ByteArray) : (Lit.string z.data.toList).sameKey (.string s.data.toList) = decide (z = s) := by
  rw [sameKey_str]
  by_cases h : z = s
  · subst h; simp
  · simp only [h, decide_false]
    rw [beq_eq_false_iff_ne]; exact fun e => h (data_inj e)
theorem wpList_range_rm {ops : Array Oper} {rest : List Oper} {o : Oper} {a : Act} {Q : Exit → Act → World → Prop} (hgd : o.guard = none) (m : Operand) (t : TypeId) (hop : o.op = Op.range t m)
    (k e : TypeId) (hk : P.underlying k = some .string) (ht : P.underlying t = some (.map k e)) (b N : Nat) (g : ByteArray → Option Value) (hm : a.eval m = .map (some b)) (h : Rm w P k b N g)
    (hK : ∀ w' cnt, RmR w' P k b w.heap.size N g (fun s => (g s).isSome) cnt → w.grownBy w' none → w'.heap.size = w.heap.size + 1 → wpList P ops Q rest (a.put o.dst (.pointer (some ⟨w.heap.size, 0, none⟩))) w') : wpList P ops Q (o :: rest) a w := by
  obtain ⟨D, h1, h2⟩ := h
  refine wpList_range_own w hgd m t hop k e (string_keyed hk) ht rawR b N D hm h1 (fun w' h3 h4 h5 => hK w' _ ⟨D, _, h3, h2, fun s => (h2 s).1⟩ h4 h5)
theorem wpList_next_rm {ops : Array Oper} {rest : List Oper} {o : Oper} {a : Act} {Q : Exit → Act → World → Prop} (hgd : o.guard = none) (it : Operand) (hop : o.op = Op.next it false)
    (k : TypeId) (hk : P.underlying k = some .string) (b r N : Nat) (g : ByteArray → Option Value) (left : ByteArray → Bool) (cnt : Nat) (hit : a.eval it = .pointer (some ⟨r, 0, none⟩)) (h : RmR w P k b r N g left cnt)
    (hDone : (∀ s, left s = false) → wpList P ops Q rest (a.put o.dst (.tuple #[.bool false])) w)
    (hMore : ∀ (s : ByteArray) (v : Value) (w' : World) (cnt' : Nat), s.size ≤ maxLen → left s = true → g s = some v → RmR w' P k b r N g (fun z => left z && !decide (z = s)) cnt' → cnt' < cnt → w.grownBy w' (some r) → w'.heap.size = w.heap.size →
      (Instr.entry (.pointer (some ⟨r, 0, none⟩))).run P w' = .ok (.tuple #[.string s, v]) w' → wpList P ops Q rest (a.put o.dst (.tuple #[.bool true, .string s, v])) w') : wpList P ops Q (o :: rest) a w := by
  obtain ⟨D, lf, h1, h2, h3⟩ := h
  refine wpList_next_ranges (α := ByteArray) (β := Value) w hgd it hop k (string_keyed hk) rawR (fun s => .string s) id (fun key kl hkey => ?_) (fun v y _ => ⟨v, rfl⟩) b r N D lf cnt hit h1
    (fun _ hl => hDone fun s => by rw [← h3 s]; exact hl _) (fun s v kl y w' cnt' hkey hlk hv hat hrg hlt hgr hsz hen => ?_)
  · obtain ⟨s, e, _⟩ := key_inv hk hkey; exact ⟨s, e⟩
  · obtain ⟨s', e1, e2, hz⟩ := key_inv hk hkey
    cases e1
    subst e2
    have hl : left s = true := by rw [← h3 s]; exact hlk
    have hy : y = (.held v, []) := by simp [rawR] at hv; exact hv.symm
    subst hy
    have hg1 : (g s).isSome = true := by rw [← (h2 s).1]; exact has_true_of_atKey hat
    obtain ⟨u, hu⟩ := Option.isSome_iff_exists.1 hg1
    have hg2 : g s = some v := by
      have e1 := (h2 s).2 v
      rw [hat] at e1
      rw [hu] at e1 ⊢
      simp at e1
      rw [e1]
    exact hMore s v w' cnt' hz hl hg2 ⟨D, _, hrg, h2, fun z => by simp only [h3, same_str]⟩ hlt hgr hsz hen
end
end Go.Proofs.YtddlohbhchjjhaaGreatDoor
