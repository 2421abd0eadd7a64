/-
  Lemmas: action.fileName: whether a string is the name of a file of a build. cordwoodref41.begins and Named: whether a string is the name of a file, as the reference says it. A part of a graph that holds a target and all on which it depends: it is valid, and its actions read the same. Plain Lean; no program in sight. Drawn regions, one of whose operations makes a box. ActionReads. An argument that is a byte.
-/
import Derived.Test.YtiphbincnnppdaaDoorU10

namespace Go.Proofs.YtiphbincnnppdaaDoor
open Go.RowKit Go.Shelf

def fwords : List Bytes := [[115, 111, 117, 114, 99, 101], [105, 102, 97, 99, 101], [99, 111, 100, 101], [112, 114, 111, 103, 114, 97, 109], [118, 101, 114, 100, 105, 99, 116]]
/-- the name of a file of a build -/
def FnP (l : Bytes) : Prop := ∃ a ∈ fwords, ∃ r, l = a ++ 32 :: r ∧ labL r = true
open Classical in
noncomputable def fnB (s : ByteArray) : Bool := decide (FnP (bl s))
theorem fnB_iff (s : ByteArray) : fnB s = true ↔ FnP (bl s) := by unfold fnB; simp
theorem fwords_no : ∀ a ∈ fwords, (32 : UInt8) ∉ a := by decide
theorem cut_uniq : ∀ {a b r q : Bytes}, (32 : UInt8) ∉ a → (32 : UInt8) ∉ b → a ++ 32 :: r = b ++ 32 :: q → a = b ∧ r = q
  | [], [], r, q, _, _, h => by simpa using h
  | [], y :: b, r, q, _, hb, h => by simp at h; exact absurd (by rw [h.1]; simp) hb
  | x :: a, [], r, q, ha, _, h => by simp at h; exact absurd (by rw [h.1]; simp) ha
  | x :: a, y :: b, r, q, ha, hb, h => by
    simp only [List.cons_append, List.cons.injEq] at h
    simp only [List.mem_cons, not_or] at ha hb
    obtain ⟨h1, h2⟩ := cut_uniq ha.2 hb.2 h.2
    exact ⟨by rw [h.1, h1], h2⟩
theorem fnB_cut {s a b : ByteArray} (h : bl s = bl a ++ 32 :: bl b) (hn : (32 : UInt8) ∉ bl a) : fnB s = (decide (bl a ∈ fwords) && labB b) := by
  rw [Bool.eq_iff_iff, fnB_iff, Bool.and_eq_true, decide_eq_true_iff]
  constructor
  · rintro ⟨v, hv, r, hr, hl⟩
    obtain ⟨h1, h2⟩ := cut_uniq (fwords_no v hv) hn (hr.symm.trans h)
    rw [← h1]
    refine ⟨hv, ?_⟩
    unfold labB; rw [← h2]; exact hl
  · rintro ⟨h1, h2⟩
    exact ⟨bl a, h1, bl b, h, h2⟩
theorem fnB_none {s : ByteArray} (h : (32 : UInt8) ∉ bl s) : fnB s = false := by
  rw [Bool.eq_false_iff]
  intro hf
  obtain ⟨v, _, r, hr, _⟩ := (fnB_iff s).1 hf
  rw [hr] at h
  exact h (by simp)

def CutEnd (s : ByteArray) (w : World) (e : Ending) (w' : World) : Prop :=
  (∃ k, w' = w.drewN k) ∧ ((∃ a b, e = .returned (.tuple #[.string a, .string b, .bool true]) ∧ bl s = bl a ++ 32 :: bl b ∧ (32 : UInt8) ∉ bl a) ∨ ((32 : UInt8) ∉ bl s ∧ e = .returned (.tuple #[.string s, .string ⟨#[]⟩, .bool false])))
set_option maxRecDepth 100000 in
set_option maxHeartbeats 1000000 in
theorem cutLite_any (s : ByteArray) (w : World) (hs : s.size ≤ maxLen) : Calls Tryd.prog 94 #[.string s, .string ⟨#[32]⟩] w (CutEnd s w) := by
  have hs' : s.size ≤ 9223372036854775807 := by unfold maxLen at hs; exact hs
  have HX := Lib.hid (Tryd.stringslite_Index_one s 32 w)
  by_cases hi : Lib.indexByte s.data.toList 32 = -1
  · have HN : Hid ((32 : UInt8) ∉ bl s) := fun hm => by
      obtain ⟨j, hj, e⟩ := List.getElem_of_mem hm
      exact Lib.indexByte_none hi j (by rw [← e]; exact List.getElem?_eq_getElem _)
    rw [hi] at HX
    clear hi
    go_enter Tryd.func94, Tryd.ntmps94
    go_wp2_with fail
    refine HX.out.mono ?_
    rintro e w1 ⟨rfl, rfl⟩
    go_wp2_with fail
    go_ret3
    exact ⟨⟨0, rfl⟩, .inr ⟨HN.out, rfl⟩⟩
  · obtain ⟨i, hi'⟩ : ∃ i : Nat, Lib.indexByte s.data.toList 32 = i := ⟨(Lib.indexByte s.data.toList 32).toNat, by have := Lib.indexByte_ge s.data.toList 32; omega⟩
    obtain ⟨h1, h2⟩ := Lib.indexByte_some hi'
    have hil : i < s.size := by rw [size_len]; exact (List.getElem?_eq_some_iff.1 h1).1
    have HSP : Hid (bl s = bl (s.extract 0 i) ++ 32 :: bl (s.extract (i + 1) s.size) ∧ (32 : UInt8) ∉ bl (s.extract 0 i)) := by
      have e1 : bl (s.extract 0 i) = (bl s).take i := by unfold bl; rw [extract_list]; simp
      have e2 : bl (s.extract (i + 1) s.size) = (bl s).drop (i + 1) := by unfold bl; rw [extract_list, size_len]; rw [List.take_of_length_le (by simp)]
      have hlt : i < (bl s).length := by rw [size_len] at hil; exact hil
      refine ⟨?_, fun hm => ?_⟩
      · rw [e1, e2]
        have e3 : (bl s)[i] = 32 := by have := h1; rw [show s.data.toList = bl s from rfl, List.getElem?_eq_getElem hlt] at this; exact Option.some.inj this
        rw [← e3, ← List.drop_eq_getElem_cons hlt, List.take_append_drop]
      · rw [e1] at hm
        obtain ⟨j, hj, e⟩ := List.getElem_of_mem hm
        rw [List.length_take] at hj
        refine h2 j (by omega) ?_
        rw [List.getElem_take] at e
        rw [← e]; exact List.getElem?_eq_getElem _
    rw [hi'] at HX
    clear hi hi' h1 h2
    go_enter Tryd.func94, Tryd.ntmps94
    go_wp2_with fail
    refine HX.out.mono ?_
    rintro e w1 ⟨rfl, rfl⟩
    have hi0 : (0 : Int) ≤ (i : Int) := by omega
    go_wp2_with fail
    go_quiet (fail)
    go_wp2_with fail
    go_ret3
    exact ⟨⟨_, rfl⟩, .inl ⟨_, _, rfl, HSP.out⟩⟩
set_option maxHeartbeats 1000000 in
theorem cut_any (s : ByteArray) (w : World) (hs : s.size ≤ maxLen) : Calls Tryd.prog 65 #[.string s, .string ⟨#[32]⟩] w (CutEnd s w) := by
  have HX := Lib.hid (cutLite_any s w hs)
  go_enter Tryd.func65, Tryd.ntmps65
  go_wp2_with fail
  refine HX.out.mono ?_
  rintro e w1 ⟨⟨k, rfl⟩, ⟨a, b, rfl, h1, h2⟩ | ⟨h1, rfl⟩⟩
  · have H1 := Lib.hid h1; have H2 := Lib.hid h2; clear h1 h2
    go_wp2_with fail
    go_ret3
    exact ⟨⟨_, rfl⟩, .inl ⟨a, b, rfl, H1.out, H2.out⟩⟩
  · have H1 := Lib.hid h1; clear h1
    go_wp2_with fail
    go_ret3
    exact ⟨⟨_, rfl⟩, .inr ⟨H1.out, rfl⟩⟩
theorem blu (a : ByteArray) (l : Bytes) : a = ⟨l.toArray⟩ ↔ bl a = l := by
  constructor
  · rintro rfl; rfl
  · intro h; exact data_inj h
set_option maxRecDepth 100000 in
set_option maxHeartbeats 4000000 in
theorem fileName_any (s : ByteArray) (w : World) (hs : s.size ≤ maxLen) : Calls Tryd.prog 39 #[.string s] w fun e w' => e = .returned (.bool (fnB s)) ∧ Below w.heap.size w w' := by
  have HX := Lib.hid (cut_any s w hs)
  go_enter Tryd.func39, Tryd.ntmps39
  go_wp2_with fail
  refine HX.out.mono ?_
  rintro e w1 ⟨⟨k, rfl⟩, ⟨a, b, rfl, h1, h2⟩ | ⟨h1, rfl⟩⟩
  · have hv := fnB_cut h1 h2
    have hbs : b.size ≤ maxLen := by
      have e1 := congrArg List.length h1
      rw [size_len]
      rw [size_len] at hs
      simp [bl] at e1 hs ⊢; omega
    have HB0 : Hid (Below w.heap.size w (w.drewN k)) := below_drewN (Below.refl _ _) k
    have HLB := Lib.hid (label_any b (w.drewN k) hbs)
    clear h1 h2 HX

    cases hl : labB b with
    | false =>
      rw [hl] at hv HLB
      have HV := Lib.hid hv; clear hv hl
      go_wp2_with fail
      refine HLB.out.mono ?_
      rintro e w2 ⟨rfl, hb⟩
      have HB := Lib.hid (HB0.out.trans (hb.mono HB0.out.size)); clear hb
      go_wp2_with fail
      go_ret
      exact ⟨ret_bool (by rw [HV.out]; simp), HB.out⟩
    | true =>
      rw [hl] at hv HLB
      have HV := Lib.hid hv; clear hv hl
      have m0 := str_lit a [115, 111, 117, 114, 99, 101]
      have m1 := str_lit a [105, 102, 97, 99, 101]
      have m2 := str_lit a [99, 111, 100, 101]
      have m3 := str_lit a [112, 114, 111, 103, 114, 97, 109]
      have m4 := str_lit a [118, 101, 114, 100, 105, 99, 116]
      go_wp2_with fail
      refine HLB.out.mono ?_
      rintro e w2 ⟨rfl, hb⟩
      have HB := Lib.hid (HB0.out.trans (hb.mono HB0.out.size)); clear hb
      by_cases e0 : a = ⟨[115, 111, 117, 114, 99, 101].toArray⟩
      · rw [decide_eq_true e0] at m0
        have HE : Hid (fnB s = true) := by show _ = _; rw [HV.out, e0]; rfl
        clear e0 m1 m2 m3 m4
        go_wp2_with fail
        go_ret
        exact ⟨ret_bool HE.out.symm, HB.out⟩
      rw [decide_eq_false e0] at m0
      by_cases e1 : a = ⟨[105, 102, 97, 99, 101].toArray⟩
      · rw [decide_eq_true e1] at m1
        have HE : Hid (fnB s = true) := by show _ = _; rw [HV.out, e1]; rfl
        clear e0 e1 m2 m3 m4
        go_wp2_with fail
        go_ret
        exact ⟨ret_bool HE.out.symm, HB.out⟩
      rw [decide_eq_false e1] at m1
      by_cases e2 : a = ⟨[99, 111, 100, 101].toArray⟩
      · rw [decide_eq_true e2] at m2
        have HE : Hid (fnB s = true) := by show _ = _; rw [HV.out, e2]; rfl
        clear e0 e1 e2 m3 m4
        go_wp2_with fail
        go_ret
        exact ⟨ret_bool HE.out.symm, HB.out⟩
      rw [decide_eq_false e2] at m2
      by_cases e3 : a = ⟨[112, 114, 111, 103, 114, 97, 109].toArray⟩
      · rw [decide_eq_true e3] at m3
        have HE : Hid (fnB s = true) := by show _ = _; rw [HV.out, e3]; rfl
        clear e0 e1 e2 e3 m4
        go_wp2_with fail
        go_ret
        exact ⟨ret_bool HE.out.symm, HB.out⟩
      rw [decide_eq_false e3] at m3
      by_cases e4 : a = ⟨[118, 101, 114, 100, 105, 99, 116].toArray⟩
      · rw [decide_eq_true e4] at m4
        have HE : Hid (fnB s = true) := by show _ = _; rw [HV.out, e4]; rfl
        clear e0 e1 e2 e3 e4
        go_wp2_with fail
        go_ret
        exact ⟨ret_bool HE.out.symm, HB.out⟩
      rw [decide_eq_false e4] at m4
      have HE : Hid (fnB s = false) := by
        show _ = _
        rw [HV.out, Bool.and_true, decide_eq_false_iff_not]
        rw [blu] at e0 e1 e2 e3 e4
        unfold fwords
        simp only [List.mem_cons, List.mem_nil_iff, or_false, not_or]
        exact ⟨e0, e1, e2, e3, e4⟩
      clear e0 e1 e2 e3 e4
      go_wp2_with fail
      go_ret
      exact ⟨ret_bool HE.out.symm, HB.out⟩
  · have HE := Lib.hid (fnB_none h1)
    clear h1
    have HB0 : Hid (Below w.heap.size w (w.drewN k)) := below_drewN (Below.refl _ _) k
    go_wp2_with fail
    go_ret
    exact ⟨ret_bool HE.out.symm, HB0.out⟩
end Go.Proofs.YtiphbincnnppdaaDoor

namespace Go.Proofs.YtiphbincnnppdaaDoor
open Go.RowKit

def BegEnd (s p : ByteArray) (w : World) (e : Ending) (w' : World) : Prop :=
  w = w' ∧ ((∃ r, bl s = bl p ++ bl r ∧ r.size ≤ s.size ∧ e = .returned (.tuple #[.string r, .bool true])) ∨ ((∀ r, bl s ≠ bl p ++ r) ∧ e = .returned (.tuple #[.string ⟨#[]⟩, .bool false])))
set_option maxRecDepth 100000 in
set_option maxHeartbeats 1000000 in
theorem begins_any (s p : ByteArray) (w : World) (hs : s.size ≤ maxLen) : Calls Tryd.prog 35 #[.string s, .string p] w (BegEnd s p w) := by
  have hs' : s.size ≤ 9223372036854775807 := by unfold maxLen at hs; exact hs
  by_cases hl : p.size ≤ s.size
  · have hlz : (p.size : Int) ≤ (s.size : Int) := by omega
    have hse := str_dec (s.extract 0 p.size) p
    have e1 : bl (s.extract 0 p.size) = (bl s).take p.size := by unfold bl; rw [extract_list]; simp
    have e2 : bl (s.extract p.size s.size) = (bl s).drop p.size := by unfold bl; rw [extract_list, size_len]; rw [List.take_of_length_le (by simp)]
    by_cases e : s.extract 0 p.size = p
    · rw [decide_eq_true e] at hse
      have HR : Hid (bl s = bl p ++ bl (s.extract p.size s.size) ∧ (s.extract p.size s.size).size ≤ s.size) := by
        refine ⟨?_, ?_⟩
        · rw [e2]
          have : bl p = (bl s).take p.size := by rw [← e1, e]
          rw [this, List.take_append_drop]
        · rw [size_len, size_len]
          show (bl (s.extract p.size s.size)).length ≤ (bl s).length
          rw [e2]; simp
      clear e e1 e2
      go_enter Tryd.func35, Tryd.ntmps35
      go_wp2
      go_ret2
      exact ⟨rfl, .inl ⟨_, HR.out.1, HR.out.2, rfl⟩⟩
    · rw [decide_eq_false e] at hse
      have HR : Hid (∀ r, bl s ≠ bl p ++ r) := fun r h => by
        apply e
        apply data_inj
        show bl (s.extract 0 p.size) = bl p
        rw [e1, h, size_len]
        show List.take (bl p).length (bl p ++ r) = bl p
        simp
      clear e e1 e2
      go_enter Tryd.func35, Tryd.ntmps35
      go_wp2
      go_ret2
      exact ⟨rfl, .inr ⟨HR.out, rfl⟩⟩
  · have hlz : ¬ (p.size : Int) ≤ (s.size : Int) := by omega
    have HR : Hid (∀ r, bl s ≠ bl p ++ r) := fun r h => by
      have := congrArg List.length h
      rw [List.length_append] at this
      have a := size_len s; have b := size_len p
      unfold bl at this
      omega
    go_enter Tryd.func35, Tryd.ntmps35
    go_wp2
    go_ret2
    exact ⟨rfl, .inr ⟨HR.out, rfl⟩⟩

def fwS : List ByteArray := [⟨#[115, 111, 117, 114, 99, 101, 32]⟩, ⟨#[105, 102, 97, 99, 101, 32]⟩, ⟨#[99, 111, 100, 101, 32]⟩, ⟨#[112, 114, 111, 103, 114, 97, 109, 32]⟩, ⟨#[118, 101, 114, 100, 105, 99, 116, 32]⟩]
theorem fwS_eq : fwS.map bl = fwords.map (· ++ [32]) := by decide
theorem fnB_begin {s p r : ByteArray} (hp : p ∈ fwS) (h : bl s = bl p ++ bl r) : fnB s = labB r := by
  have h1 : bl p ∈ fwords.map (· ++ [32]) := by rw [← fwS_eq]; exact List.mem_map_of_mem hp
  obtain ⟨a, ha, e⟩ := List.mem_map.1 h1
  have e2 : bl s = a ++ 32 :: bl r := by rw [h, ← e]; simp
  rw [Bool.eq_iff_iff, fnB_iff]
  constructor
  · rintro ⟨v, hv, q, hq, hl⟩
    obtain ⟨_, h2⟩ := cut_uniq (fwords_no v hv) (fwords_no a ha) (hq.symm.trans e2)
    unfold labB; rw [← h2]; exact hl
  · intro hl; exact ⟨a, ha, bl r, e2, hl⟩
theorem fnB_not {s : ByteArray} (h : ∀ p ∈ fwS, ∀ r, bl s ≠ bl p ++ r) : fnB s = false := by
  rw [Bool.eq_false_iff]
  intro hf
  obtain ⟨v, hv, q, hq, _⟩ := (fnB_iff s).1 hf
  have h1 : v ++ [32] ∈ fwS.map bl := by rw [fwS_eq]; exact List.mem_map.2 ⟨v, hv, rfl⟩
  obtain ⟨p, hp, e⟩ := List.mem_map.1 h1
  exact h p hp q (by rw [e, hq]; simp)
set_option maxRecDepth 100000 in
set_option maxHeartbeats 2000000 in
theorem named_any (s : ByteArray) (w : World) (hs : s.size ≤ maxLen) : Calls Tryd.prog 15 #[.string s] w fun e w' => e = .returned (.bool (fnB s)) ∧ Below w.heap.size w w' := by
  obtain ⟨W, hW⟩ : ∃ W, w.alloc (.cells #[.string ⟨#[115, 111, 117, 114, 99, 101, 32]⟩, .string ⟨#[105, 102, 97, 99, 101, 32]⟩, .string ⟨#[99, 111, 100, 101, 32]⟩, .string ⟨#[112, 114, 111, 103, 114, 97, 109, 32]⟩, .string ⟨#[118, 101, 114, 100, 105, 99, 116, 32]⟩] 9) = W := ⟨_, rfl⟩
  have HB : Hid (Below w.heap.size w W) := by rw [← hW]; exact (Below.refl _ w).alloc (Nat.le_refl _) _
  have HS : Hid (Sl W W.heap.size 1 (some ⟨w.heap.size, 0, none⟩) 5 (strs fwS)) := by rw [← hW]; exact Sl.of_bk (Bk.new w _ _) rfl
  go_enter Tryd.func15, Tryd.ntmps15
  go_wp2
  go_loop [4] (fun i => ∃ k : Nat, k ≤ 5 ∧ i = .int .i64 k ∧ Hid (∀ p ∈ fwS.take k, ∀ r, bl s ≠ bl p ++ r)) (fun i => 5 - (intOf i).toNat)
  case atStart => exact ⟨0, Nat.zero_le _, rfl, fun p hp => by cases hp⟩
  case round =>
    obtain ⟨k, hk, rfl, hF⟩ := hrel
    by_cases hlt : k < 5
    · obtain ⟨bb, off, y, hbe, hbB, ht, y0⟩ := HS.out.str_at hlt
      have hlz : (k : Int) < 5 := by omega
      cases hbe
      rw [Nat.zero_add] at y0
      have HT := Lib.hid ht
      have HBG := Lib.hid (begins_any s y W hs)
      clear ht
      go_wp2_with fail
      refine HBG.out.mono ?_
      rintro e w1 ⟨rfl, ⟨r, h1, h2, rfl⟩ | ⟨h1, rfl⟩⟩
      · have HE := Lib.hid (fnB_begin (List.mem_of_getElem? HT.out) h1)
        have hrs : r.size ≤ maxLen := Nat.le_trans h2 hs
        clear h1
        go_wp2_with fail
        refine (rlabel_any r _ hrs).mono ?_
        rintro e w2 ⟨rfl, rfl⟩
        go_wp2_with fail
        go_ret
        exact ⟨ret_bool HE.out.symm, HB.out⟩
      · have HN : Hid (∀ p ∈ fwS.take (k + 1), ∀ r, bl s ≠ bl p ++ r) := by
          intro p hp
          rw [take_snoc HT.out] at hp
          rcases List.mem_append.1 hp with hp | hp
          · exact hF.out p hp
          · rw [List.mem_singleton.1 hp]; exact h1
        clear h1
        go_wp2_with fail
        go_round
        case rel => exact ⟨k + 1, by omega, by go_num, HN.out⟩
        case measure => simp [intOf]; omega
    · have hlz : ¬ (k : Int) < 5 := by omega
      have HE : Hid (fnB s = false) := fnB_not (by have := hF.out; rw [List.take_of_length_le (by simp [fwS]; omega)] at this; exact this)
      go_wp2_with fail
      go_ret
      exact ⟨ret_bool HE.out.symm, HB.out⟩
end Go.Proofs.YtiphbincnnppdaaDoor

namespace Go.Proofs.YtiphbincnnppdaaDoor
open Go.RowKit

section
variable {ts : List Tg} {qb : ByteArray → Bool}
def part (qb : ByteArray → Bool) (ts : List Tg) : List Tg := ts.filter (fun x => qb x.lab)
theorem findT_part : ∀ (ts : List Tg) {s : ByteArray}, qb s = true → findT (part qb ts) s = findT ts s
  | [], _, _ => rfl
  | r :: ts, s, h => by
    have ih := findT_part ts h
    unfold part at ih ⊢
    by_cases e : r.lab = s
    · rw [List.filter_cons_of_pos (by rw [e]; exact h)]
      simp only [findT, if_pos e]
    · by_cases hq : qb r.lab = true
      · rw [List.filter_cons_of_pos (by exact hq)]
        simp only [findT, if_neg e]; exact ih
      · rw [List.filter_cons_of_neg (by exact hq)]
        simp only [findT, if_neg e]; exact ih
theorem findT_out : ∀ (ts : List Tg) {s : ByteArray}, qb s = false → findT (part qb ts) s = none
  | [], _, _ => rfl
  | r :: ts, s, h => by
    have ih := findT_out ts h
    unfold part at ih ⊢
    by_cases hq : qb r.lab = true
    · have e : ¬ r.lab = s := fun e => by rw [e, h] at hq; cases hq
      rw [List.filter_cons_of_pos (by exact hq)]
      simp only [findT, if_neg e]; exact ih
    · rw [List.filter_cons_of_neg (by exact hq)]; exact ih
theorem isT_part (ts : List Tg) (s : ByteArray) : isT (part qb ts) s = (isT ts s && qb s) := by
  unfold isT
  cases h : qb s with
  | true => rw [findT_part ts h]; simp
  | false => rw [findT_out ts h]; simp
/-- closed: what a kept label depends on is kept -/
def Clo (qb : ByteArray → Bool) (ts : List Tg) : Prop := ∀ s, qb s = true → ∀ d ∈ nxT ts s, qb d = true
theorem nxT_part (hc : Clo qb ts) {s : ByteArray} (h : qb s = true) : nxT (part qb ts) s = nxT ts s := by
  have hcs := hc s h
  unfold nxT at hcs ⊢
  rw [findT_part ts h]
  cases hf : findT ts s with
  | none => rfl
  | some t =>
    rw [hf] at hcs
    simp only at hcs ⊢
    apply List.filter_congr
    intro d hd
    rw [isT_part]
    cases hi : isT ts d with
    | false => rfl
    | true => rw [hcs d (List.mem_filter.2 ⟨hd, hi⟩)]; rfl
theorem nxT_out {s : ByteArray} (h : qb s = false) : nxT (part qb ts) s = [] := by
  unfold nxT; rw [findT_out ts h]
theorem stp_part (hc : Clo qb ts) : ∀ {n : Nat} {a b : ByteArray}, Stp (nxT (part qb ts)) n a b → Stp (nxT ts) n a b
  | 0, a, b, h => by
    cases hq : qb a with
    | true => have h' : b ∈ nxT (part qb ts) a := h; rw [nxT_part hc hq] at h'; exact h'
    | false => have h' : b ∈ nxT (part qb ts) a := h; rw [nxT_out hq] at h'; cases h'
  | n + 1, a, b, ⟨c, h1, h2⟩ => by
    refine ⟨c, stp_part hc h1, ?_⟩
    cases hq : qb c with
    | true => rw [nxT_part hc hq] at h2; exact h2
    | false => rw [nxT_out hq] at h2; cases h2
theorem stp_keep (hc : Clo qb ts) : ∀ {n : Nat} {a b : ByteArray}, qb a = true → Stp (nxT ts) n a b → Stp (nxT (part qb ts)) n a b ∧ qb b = true
  | 0, a, b, hq, h => ⟨by show b ∈ nxT (part qb ts) a; rw [nxT_part hc hq]; exact h, hc a hq b h⟩
  | n + 1, a, b, hq, ⟨c, h1, h2⟩ => by
    obtain ⟨k1, k2⟩ := stp_keep hc hq h1
    exact ⟨⟨c, k1, by rw [nxT_part hc k2]; exact h2⟩, hc c k2 b h2⟩
theorem rch_part (hc : Clo qb ts) {a b : ByteArray} (hq : qb a = true) : Rch (nxT (part qb ts)) a b ↔ Rch (nxT ts) a b :=
  ⟨fun ⟨n, h⟩ => ⟨n, stp_part hc h⟩, fun ⟨n, h⟩ => ⟨n, (stp_keep hc hq h).1⟩⟩
theorem find_self (h : Vld ts) {t : Tg} (ht : t ∈ ts) : findT ts t.lab = some t := by
  obtain ⟨r, hr⟩ : ∃ r, findT ts t.lab = some r := Option.isSome_iff_exists.1 ((isT_iff ts t.lab).2 (List.mem_map_of_mem ht))
  obtain ⟨h1, h2⟩ := findT_lab hr
  obtain ⟨j, hj, e1⟩ := List.getElem_of_mem h2
  obtain ⟨k, hk, e2⟩ := List.getElem_of_mem ht
  have : j = k := by
    refine (List.getElem_inj (h₀ := by simpa using hj) (h₁ := by simpa using hk) h.asc.nodup).1 ?_
    simp [e1, e2, h1]
  subst this
  rw [hr, ← e1, e2]
theorem vld_part (h : Vld ts) (hc : Clo qb ts) : Vld (part qb ts) := by
  have hmem : ∀ t, t ∈ part qb ts → t ∈ ts ∧ qb t.lab = true := fun t ht => by unfold part at ht; exact List.mem_filter.1 ht
  refine ⟨Nat.le_trans (List.length_filter_le _ _) h.few, fun t ht => ?_, ?_, fun s hs => h.free s ⟨hs.choose, stp_part hc hs.choose_spec⟩⟩
  · obtain ⟨h1, h2⟩ := hmem t ht
    have ho := h.all t h1
    refine ⟨ho.lab, ho.kind, ho.few, fun d hd => ?_, ho.nod, ho.vis⟩
    have hk := ho.dep d hd
    have hi := kindOf_isT hk
    have hq : qb d = true := hc t.lab h2 d (by unfold nxT; rw [find_self h h1]; exact List.mem_filter.2 ⟨hd, hi⟩)
    unfold kindOf at hk ⊢
    rw [findT_part ts hq]; exact hk
  · exact List.Pairwise.sublist (List.Sublist.map _ List.filter_sublist) h.asc
theorem inp_part (h : Vld ts) (hc : Clo qb ts) {lab : ByteArray} (hq : qb lab = true) {kd : Int} {l : List ByteArray} {e : Int} (hi : InpR (part qb ts) lab kd l e) : InpR ts lab kd l e := by
  rcases hi with ⟨h1, _⟩ | ⟨h1, h2, h3⟩ | ⟨h1, t, h2, h3⟩
  · exact absurd (vld_part h hc) h1
  · refine .inr (.inl ⟨h, ?_, h3⟩)
    rw [isT_part, hq, Bool.and_true] at h2; exact h2
  · rw [findT_part ts hq] at h2
    refine .inr (.inr ⟨h, t, h2, ?_⟩)
    rcases h3 with h3 | ⟨h3, h4, h5, h6⟩
    · exact .inl h3
    · refine .inr ⟨h3, h4, h5, fun x => (h6 x).trans ?_⟩
      unfold InpMem
      simp only [rch_part hc hq]
end
/-- the label and what it reaches are closed -/
theorem clo_rch {ts : List Tg} {lab : ByteArray} {all : List ByteArray} (hm : ∀ x, x ∈ all ↔ Rch (nxT ts) lab x) : Clo (fun x => decide (x = lab) || memB all x) ts := by
  intro s hs d hd
  simp only [Bool.or_eq_true, decide_eq_true_iff] at hs ⊢
  right
  rw [memB_iff, hm]
  rcases hs with rfl | hs
  · exact Rch.one hd
  · rw [memB_iff, hm] at hs; exact hs.snoc hd
theorem nod_len {l m : List ByteArray} (h1 : l.Nodup) (h2 : m.Nodup) (h : ∀ x, x ∈ l ↔ x ∈ m) : l.length = m.length :=
  Nat.le_antisymm (nodup_len l m h1 (fun x hx => (h x).1 hx)) (nodup_len m l h2 (fun x hx => (h x).2 hx))
/-- what an action that is made reads -/
theorem inp_facts {ts : List Tg} {lab : ByteArray} {t : Tg} {kd : Int} {l all : List ByteArray} {e : Int} (hv : Vld ts) (hf : findT ts lab = some t) (hk : kd = 1 ∨ kd = 2 ∨ kd = 3) (ha : Asc all) (hm : ∀ x, x ∈ all ↔ Rch (nxT ts) lab x) (h : InpR ts lab kd l e) :
    ((e = 0) ↔ (kd = 1 ∨ t.kind = 2)) ∧ (e = 0 → Asc l ∧ (∀ x ∈ l, fnB x = true ∧ x.size ≤ 98) ∧ (kd = 1 → l.length = t.deps.length + 1) ∧ (kd = 2 → l.length = all.length + 1) ∧ (kd = 3 → l.length = 1)) := by
  have hto := hv.all t (findT_lab hf).2
  have htl := (findT_lab hf).1
  have hlab : labB lab = true := by rw [← htl]; exact hto.lab
  have h90 : lab.size ≤ 90 := vld_size hv (by unfold isT; rw [hf]; rfl)
  rcases h with ⟨h1, _⟩ | ⟨_, h1, _⟩ | ⟨_, t', h1, h2⟩
  · exact absurd hv h1
  · unfold isT at h1; rw [hf] at h1; cases h1
  rw [hf] at h1; cases h1
  rcases h2 with ⟨⟨hb1, hb2⟩, rfl, rfl⟩ | ⟨hb, rfl, has, hme⟩
  · refine ⟨⟨(fun h => by cases h), fun h => ?_⟩, (fun h => by cases h)⟩
    rcases h with h | h
    · exact absurd h hb1
    · rcases hb2 with ⟨h1, h2⟩ | h1
      · omega
      · rw [h1] at h; cases h
  · have named : ∀ {p r : ByteArray}, p ∈ fwS → labB r = true → fnB (p ++ r) = true := fun {p r} hp hr => by
      rw [fnB_begin (r := r) hp (by unfold bl; simp)]; exact hr
    have hsz : ∀ (p r : ByteArray), (p ++ r).size = p.size + r.size := fun p r => by simp
    have hlb : ∀ {d : ByteArray}, isT ts d = true → labB d = true ∧ d.size ≤ 90 := fun {d} hd => by
      refine ⟨?_, vld_size hv hd⟩
      obtain ⟨x, hx, rfl⟩ := List.mem_map.1 ((isT_iff ts d).1 hd)
      exact (hv.all x hx).lab
    have hdp : ∀ d ∈ t.deps, isT ts d = true := fun d hd => kindOf_isT (hto.dep d hd)
    have hrl : lab ∉ all := fun h => hv.free lab ((hm lab).1 h)
    refine ⟨⟨fun _ => ?_, fun _ => rfl⟩, fun _ => ⟨has, fun x hx => ?_, fun h1 => ?_, fun h1 => ?_, fun h1 => ?_⟩⟩
    · by_cases h1 : kd = 1
      · exact .inl h1
      · right
        rcases hto.kind with h2 | h2
        · exact absurd ⟨h1, .inr h2⟩ hb
        · exact h2
    · rcases (hme x).1 hx with ⟨_, h | ⟨d, hd, h⟩⟩ | ⟨_, h | ⟨d, hd, h⟩⟩ | ⟨_, h⟩
      · rw [h]; exact ⟨named (by simp [fwS, sourceW]) hlab, by rw [hsz]; have : sourceW.size = 7 := rfl; omega⟩
      · have := hlb (hdp d hd)
        rw [h]; exact ⟨named (by simp [fwS, ifaceW]) this.1, by rw [hsz]; have : ifaceW.size = 6 := rfl; omega⟩
      · rw [h]; exact ⟨named (by simp [fwS, codeW]) hlab, by rw [hsz]; have : codeW.size = 5 := rfl; omega⟩
      · have := hlb (rch_isT hd)
        rw [h]; exact ⟨named (by simp [fwS, codeW]) this.1, by rw [hsz]; have : codeW.size = 5 := rfl; omega⟩
      · rw [h]; exact ⟨named (by simp [fwS, programW]) hlab, by rw [hsz]; have : programW.size = 8 := rfl; omega⟩
    · subst h1
      rw [nod_len has.nodup (inp_nodup1 (lab := lab) hto.nod) (fun x => (hme x).trans ?_)]
      · simp
      · simp only [InpMem, List.mem_cons, List.mem_map]
        constructor
        · rintro (⟨_, h | ⟨d, hd, h⟩⟩ | ⟨h, _⟩ | ⟨h, _⟩)
          · exact .inl h
          · exact .inr ⟨d, hd, h.symm⟩
          · cases h
          · cases h
        · rintro (h | ⟨d, hd, h⟩)
          · exact .inl ⟨trivial, .inl h⟩
          · exact .inl ⟨trivial, .inr ⟨d, hd, h.symm⟩⟩
    · subst h1
      rw [nod_len has.nodup (inp_nodup2 ha.nodup hrl) (fun x => (hme x).trans ?_)]
      · simp
      · simp only [InpMem, List.mem_cons, List.mem_map]
        constructor
        · rintro (⟨h, _⟩ | ⟨_, h | ⟨d, hd, h⟩⟩ | ⟨h, _⟩)
          · cases h
          · exact .inl h
          · exact .inr ⟨d, (hm d).2 hd, h.symm⟩
          · cases h
        · rintro (h | ⟨d, hd, h⟩)
          · exact .inr (.inl ⟨trivial, .inl h⟩)
          · exact .inr (.inl ⟨trivial, .inr ⟨d, (hm d).1 hd, h.symm⟩⟩)
    · subst h1
      rw [nod_len (m := [programW ++ lab]) has.nodup (by simp) (fun x => (hme x).trans ?_)]
      · simp
      · simp only [InpMem, List.mem_singleton]
        constructor
        · rintro (⟨h, _⟩ | ⟨h, _⟩ | ⟨_, h⟩)
          · cases h
          · cases h
          · exact h
        · intro h; exact .inr (.inr ⟨trivial, h⟩)
theorem wrds : sourceW.size = 7 ∧ ifaceW.size = 6 ∧ codeW.size = 5 ∧ programW.size = 8 := ⟨rfl, rfl, rfl, rfl⟩
/-- what has been taken into the part so far -/
theorem part_take {qb : ByteArray → Bool} {ts : List Tg} {k : Nat} {t : Tg} (ht : ts[k]? = some t) : part qb (ts.take (k + 1)) = if qb t.lab = true then part qb (ts.take k) ++ [t] else part qb (ts.take k) := by
  unfold part
  rw [take_snoc ht, List.filter_append]
  by_cases h : qb t.lab = true
  · rw [if_pos h]; simp [h]
  · rw [if_neg h]; simp [h]
end Go.Proofs.YtiphbincnnppdaaDoor

namespace Go.Proofs.YtiphbincnnppdaaDoor
open Go.RowKit

/-- what is known of the values of a drawn region, the k-th operation making a box -/
def alPhi (k : Nat) (vals : List Value) (base : Nat) (t : TypeId) (cs : Array Value) (i : Nat) (v : Value) (W : World) : Prop :=
  if i = k then ∃ b0, v = .pointer (some ⟨b0, 0, none⟩) ∧ base ≤ b0 ∧ Bk W b0 t cs else vPhi vals i v W
theorem alPhi_keep {k : Nat} {vals : List Value} {base : Nat} {t : TypeId} {cs : Array Value} (i : Nat) (v : Value) (W W' : World) (h : alPhi k vals base t cs i v W) (hb : Below W.heap.size W W') : alPhi k vals base t cs i v W' := by
  unfold alPhi at h ⊢
  by_cases e : i = k
  · rw [if_pos e] at h ⊢
    obtain ⟨b0, h1, h2, h3⟩ := h
    exact ⟨b0, h1, h2, h3.below hb h3.lt⟩
  · rw [if_neg e] at h ⊢; exact h
end Go.Proofs.YtiphbincnnppdaaDoor

namespace Go.Proofs.YtiphbincnnppdaaDoor
open Go.RowKit Go.Maps

set_option maxRecDepth 100000 in
set_option maxHeartbeats 1000000 in
theorem has21_any (A : Option Addr) (n m c B : Nat) (l : List ByteArray) (x : ByteArray) (w : World) (h0 : Sl w B 1 A m (strs l)) (hnm : n ≤ m) (hn : m ≤ 9223372036854775807) :
    Calls Tryd.prog 14 #[.slice A n c, .string x] w fun e w' => e = .returned (.bool (memB (l.take n) x)) ∧ w = w' := by
  have H0 := Lib.hid h0
  clear h0
  go_enter Tryd.func14, Tryd.ntmps14
  go_wp2
  go_loop [5] (fun i => ∃ k : Nat, k ≤ n ∧ i = .int .i64 k ∧ Hid (memB (l.take k) x = false)) (fun i => n - (intOf i).toNat)
  case atStart => exact ⟨0, Nat.zero_le _, rfl, rfl⟩
  case round =>
    obtain ⟨k, hk, rfl, hF⟩ := hrel
    by_cases hlt : k < n
    · obtain ⟨bb, off, y, rfl, hbB, ht, y0⟩ := H0.out.str_at (show k < m by omega)
      have hlz : (k : Int) < (n : Int) := by omega
      have hse := str_dec y x
      by_cases e : y = x
      · have HE := Lib.hid (memB_here ht hlt e)
        rw [decide_eq_true e] at hse
        clear e ht
        go_wp2
        go_ret
        exact ⟨ret_bool HE.out.symm, rfl⟩
      · have HE := Lib.hid (memB_take hF.out ht e)
        rw [decide_eq_false e] at hse
        clear e ht
        go_wp2
        go_round
        case rel => exact ⟨k + 1, by omega, by go_num, HE.out⟩
        case measure => simp [intOf]; omega
    · have hlz : ¬ (k : Int) < (n : Int) := by omega
      obtain rfl : n = k := by omega
      go_wp2
      go_ret
      exact ⟨ret_bool hF.out.symm, rfl⟩
theorem infoTgt : (Tryd.prog.info? 35).map (fun i => (i.zero, i.size, i.bytes)) = some (some (.agg #[.string ⟨#[]⟩, .int .i64 0, .slice none 0 0, .slice none 0 0]), 4, 72) := by kernel_rfl
theorem oneCells_tg (t : Tg) : ∀ u ∈ flat tgC [t], u.oneCell' = true := by
  intro u hu
  simp [flat, tgC] at hu
  rcases hu with rfl | rfl | rfl | rfl <;> rfl
theorem set_size (w : World) (a : Addr) (u : Value) : (w.setCell a u).heap.size = w.heap.size := by simp [World.setCell]
theorem TgOk.more {w : World} {B B' : Nat} {t : Tg} (h : TgOk w B t) (hB : B ≤ B') : TgOk w B' t := ⟨h.d.more hB, h.dle, h.dmax, h.v.more hB, h.vle, h.vmax, h.ls, h.ds, h.vs⟩
theorem part_len (qb : ByteArray → Bool) (ts : List Tg) : (part qb ts).length ≤ ts.length := List.length_filter_le _ _

set_option maxRecDepth 100000 in
set_option maxHeartbeats 16000000 in
theorem lawRds_any (A : Option Addr) (n c : Nat) (ts : List Tg) (zn : Nat) (w : World) (h0 : Sl w w.heap.size 4 A n (flat tgC ts)) (hok : ∀ t ∈ ts, TgOk w w.heap.size t) (hnc : n ≤ c) (hcm : c ≤ maxLen) (hz : zn < 256) :
    Calls Tryd.prog 4 #[.agg #[.slice A n c], .int .u8 (zn : Int)] w (LawEnd w) := by
  have HTL := Lib.hid (h0.len tgC_len (by omega))
  have H0 := Lib.hid h0; have HOK := Lib.hid hok
  clear h0 hok
  have hnm : n ≤ 9223372036854775807 := by unfold maxLen at hcm; omega
  obtain ⟨W0, hW0⟩ : ∃ W0, w.alloc (.cells #[.slice A n c] 24) = W0 := ⟨_, rfl⟩
  have HB0 : Hid (Below w.heap.size w W0) := by rw [← hW0]; exact (Below.refl _ w).alloc (Nat.le_refl _) _
  have zW0 : W0.heap.size = w.heap.size + 1 := by rw [← hW0]; simp
  have HG : Hid (Bk W0 w.heap.size 24 #[.slice A n c]) := by rw [← hW0]; exact Bk.new w _ _
  have g0 := HG.out.cell 0
  simp at g0
  have HGR := Lib.hid (rgreat_any A n c w.heap.size ts W0 (H0.out.below HB0.out (Nat.le_refl _)) (fun t ht => (HOK.out t ht).below HB0.out (Nat.le_refl _)) hnc hcm)
  have HV := Lib.hid (rvalid_any A n c w.heap.size ts W0 (H0.out.below HB0.out (Nat.le_refl _)) (fun t ht => (HOK.out t ht).below HB0.out (Nat.le_refl _)) (by omega) hnc hcm)
  go_enter Tryd.func4, Tryd.ntmps4
  go_wp2_with fail
  refine HGR.out.mono ?_
  rintro e w1 ⟨r, rfl, _, rfl⟩
  cases r with
  | true =>
    go_wp2_with fail
    refine (awake_any _).mono ?_
    rintro e wz ⟨rfl, hbz⟩
    have HBz := Lib.hid (HB0.out.trans (hbz.mono HB0.out.size)); clear hbz
    go_wp2_with fail
    go_ret
    exact ⟨rfl, HBz.out⟩
  | false =>
    go_wp2_with fail
    refine HV.out.mono ?_
    rintro e w1 ⟨r, rfl, hr, hb1⟩
    have HR := Lib.hid hr
    have HB1 : Hid (Below w.heap.size w w1) := HB0.out.trans (hb1.mono (by omega))
    have HG1 := Lib.hid (HG.out.below hb1 (by omega))
    have hz1 := hb1.size
    clear hr hb1 g0 HV HGR hW0
    have g0 := HG1.out.cell 0
    simp at g0
    cases r with
    | false =>
      go_wp2_with fail
      refine (awake_any _).mono ?_
      rintro e wz ⟨rfl, hbz⟩
      have HBz := Lib.hid (HB1.out.trans (hbz.mono HB1.out.size)); clear hbz
      go_wp2_with fail
      go_ret
      exact ⟨rfl, HBz.out⟩
    | true =>
      have HVL := Lib.hid (HR.out.1 rfl)
      by_cases hn0 : n = 0
      · subst hn0
        go_wp2_with fail
        refine (awake_any _).mono ?_
        rintro e wz ⟨rfl, hbz⟩
        have HBz := Lib.hid (HB1.out.trans (hbz.mono HB1.out.size)); clear hbz
        go_wp2_with fail
        go_ret
        exact ⟨rfl, HBz.out⟩
      obtain ⟨k, hk⟩ : ∃ k, zn % n = k := ⟨_, rfl⟩
      have hkn : k < n := by rw [← hk]; exact Nat.mod_lt _ (by omega)
      obtain ⟨b, off, t, rfl, hbB, ht, y0, y1, y2, y3⟩ := (H0.out.below HB1.out (Nat.le_refl _)).tg hkn
      have HTM := Lib.hid (List.mem_of_getElem? ht)
      have HTO := Lib.hid (HOK.out t HTM.out)
      have HTD := Lib.hid (HVL.out.at_ ht)
      have HFT := Lib.hid (find_self HVL.out HTM.out)
      have hn100 : n ≤ 100 := by have := HVL.out.few; rw [HTL.out] at this; exact this
      have hkz : (k : Int) < (n : Int) := by omega
      have hmod : (zn : Int).tmod (n : Int) = (k : Int) := by rw [← hk]; rfl
      have hn0b : ((n : Int) == 0) = false := by rw [beq_eq_false_iff_ne]; omega
      have hn0c : ¬ (n : Int) = 0 := by omega
      have hzw : IntKind.i64.wrap (zn : Int) = (zn : Int) := wrap_small (by omega) (by omega)
      clear ht hk
      have hkk : t.kind = 1 ∨ t.kind = 2 := HTD.out.kind
      have hdl : t.deps.length = t.dn := HTO.out.dlen
      have hdf : t.deps.length ≤ 20 := HTD.out.few
      have hls : t.lab.size ≤ maxLen := HTO.out.ls
      obtain ⟨tl, kind, dA, dn, dc, deps, vA, vn, vc, vis⟩ := t
      simp only at y0 y1 y2 y3 hkk hdl hdf hls HFT
      have HLS := Lib.hid hls
      have HIT : Hid (isT ts tl = true) := by show _ = _; unfold isT; rw [HFT.out]; rfl
      have HY0 := Lib.hid y0; have HY1 := Lib.hid y1; have HY2 := Lib.hid y2; have HY3 := Lib.hid y3
      have HG0 := Lib.hid g0
      have hdn20 : dn ≤ 20 := by omega
      have HDL := Lib.hid hdl
      clear y0 y1 y2 y3 hdl hls
      go_wp2_with fail
      refine wp_region_stableGD 11 (35 :: 36 :: 37 :: 38 :: 39 :: 40 :: 41 :: 42 :: 43 :: 44 :: 5 :: []) (by kernel_rfl) (by kernel_rfl) (by kernel_rfl) (fun W => Below w1.heap.size w1 W) (fun W W' => Below W.heap.size W W')
        (alPhi 10 ((.pointer (some ⟨w.heap.size, 0, none⟩)) :: (.slice (some ⟨b, off, none⟩) n c) :: (.int .u8 (zn : Int)) :: (.int .i64 (zn : Int)) :: (.pointer (some ⟨w.heap.size, 0, none⟩)) :: (.slice (some ⟨b, off, none⟩) n c) :: (.int .i64 (n : Int)) :: (.int .i64 (k : Int)) :: (.pointer (some ⟨b, off + k * 4, none⟩)) :: (.agg #[.string tl, .int .i64 kind, .slice dA dn dc, .slice vA vn vc]) :: (undef) :: []) w1.heap.size 35 #[.string ⟨#[]⟩, .int .i64 0, .slice none 0 0, .slice none 0 0]) (fun W W' h1 h2 => h1.trans (h2.mono h1.size)) (fun i v W W' h hb => alPhi_keep i v W W' h hb) (Below.refl _ _).drew ?stepA ?tailA
      case stepA =>
        intro i o vs W hi ho hv hR hphi
        obtain ⟨v0, v1, v2, v3, v4, v5, v6, v7, v8, v9, v10, rfl⟩ := ls11 hv
        simp only [List.zip, List.zipWith, putAll, Act.put, List.setIfInBounds_toArray, List.set]
        have hWz := hR.size
        have l0 := (hR.cell (p := ⟨w.heap.size, 0, none⟩) (by show w.heap.size < _; omega)).trans HG0.out
        have m0 := (hR.cell (p := ⟨b, off + k * 4, none⟩) (by show b < _; omega)).trans HY0.out
        have m1 := (hR.cell (p := ⟨b, off + k * 4 + 1, none⟩) (by show b < _; omega)).trans HY1.out
        have m2 := (hR.cell (p := ⟨b, off + k * 4 + 2, none⟩) (by show b < _; omega)).trans HY2.out
        have m3 := (hR.cell (p := ⟨b, off + k * 4 + 3, none⟩) (by show b < _; omega)).trans HY3.out
        match i, hi, ho with
        | 0, _, rfl =>
          exact .inl ⟨rfl, gives_value (v := .pointer (some ⟨w.heap.size, 0, none⟩)) (w' := W) (by go_simp) ⟨Below.refl _ _, fun u hu => by cases hu; rfl⟩⟩
        | 1, _, rfl =>
          have e0 : v0 = _ := hphi ⟨0, .data⟩ (by simp) rfl v0 rfl _ rfl
          subst e0
          exact .inl ⟨rfl, gives_value (v := .slice (some ⟨b, off, none⟩) n c) (w' := W) (by go_simp) ⟨Below.refl _ _, fun u hu => by cases hu; rfl⟩⟩
        | 2, _, rfl =>
          exact .inl ⟨rfl, gives_value (v := .int .u8 (zn : Int)) (w' := W) (by go_simp) ⟨Below.refl _ _, fun u hu => by cases hu; rfl⟩⟩
        | 3, _, rfl =>
          have e2 : v2 = _ := hphi ⟨2, .data⟩ (by simp) rfl v2 rfl _ rfl
          subst e2
          exact .inl ⟨rfl, gives_value (v := .int .i64 (zn : Int)) (w' := W) (by go_simp) ⟨Below.refl _ _, fun u hu => by cases hu; rfl⟩⟩
        | 4, _, rfl =>
          exact .inl ⟨rfl, gives_value (v := .pointer (some ⟨w.heap.size, 0, none⟩)) (w' := W) (by go_simp) ⟨Below.refl _ _, fun u hu => by cases hu; rfl⟩⟩
        | 5, _, rfl =>
          have e4 : v4 = _ := hphi ⟨4, .data⟩ (by simp) rfl v4 rfl _ rfl
          subst e4
          exact .inl ⟨rfl, gives_value (v := .slice (some ⟨b, off, none⟩) n c) (w' := W) (by go_simp) ⟨Below.refl _ _, fun u hu => by cases hu; rfl⟩⟩
        | 6, _, rfl =>
          have e5 : v5 = _ := hphi ⟨5, .data⟩ (by simp) rfl v5 rfl _ rfl
          subst e5
          exact .inl ⟨rfl, gives_value (v := .int .i64 (n : Int)) (w' := W) (by go_simp) ⟨Below.refl _ _, fun u hu => by cases hu; rfl⟩⟩
        | 7, _, rfl =>
          have e3 : v3 = _ := hphi ⟨3, .data⟩ (by simp) rfl v3 rfl _ rfl
          have e6 : v6 = _ := hphi ⟨6, .data⟩ (by simp) rfl v6 rfl _ rfl
          subst e3 e6
          exact .inl ⟨rfl, gives_value (v := .int .i64 (k : Int)) (w' := W) (by go_simp) ⟨Below.refl _ _, fun u hu => by cases hu; rfl⟩⟩
        | 8, _, rfl =>
          have e1 : v1 = _ := hphi ⟨1, .data⟩ (by simp) rfl v1 rfl _ rfl
          have e7 : v7 = _ := hphi ⟨7, .data⟩ (by simp) rfl v7 rfl _ rfl
          subst e1 e7
          exact .inl ⟨rfl, gives_value (v := .pointer (some ⟨b, off + k * 4, none⟩)) (w' := W) (by go_simp) ⟨Below.refl _ _, fun u hu => by cases hu; rfl⟩⟩
        | 9, _, rfl =>
          have e8 : v8 = _ := hphi ⟨8, .data⟩ (by simp) rfl v8 rfl _ rfl
          subst e8
          exact .inl ⟨rfl, gives_value (v := .agg #[.string tl, .int .i64 kind, .slice dA dn dc, .slice vA vn vc]) (w' := W) (by go_simp) ⟨Below.refl _ _, fun u hu => by cases hu; rfl⟩⟩
        | 10, _, rfl =>
          exact .inl ⟨rfl, gives_value (v := .pointer (some ⟨W.heap.size, 0, none⟩)) (w' := W.alloc (.cells #[.string ⟨#[]⟩, .int .i64 0, .slice none 0 0, .slice none 0 0] 35)) (by go_simp) ⟨(Below.refl _ W).alloc (Nat.le_refl _) _, W.heap.size, rfl, hR.size, Bk.new W _ _⟩⟩
        | i + 11, hi, _ => exact absurd hi (by omega)
      case tailA =>
        intro vs W hv hR hphi
        obtain ⟨v0, v1, v2, v3, v4, v5, v6, v7, v8, v9, v10, rfl⟩ := ls11 hv
        simp only [List.zip, List.zipWith, putAll, Act.put, List.setIfInBounds_toArray, List.set, List.drop]
        have e0 : v0 = _ := hphi 0 v0 rfl _ rfl
        have e1 : v1 = _ := hphi 1 v1 rfl _ rfl
        have e2 : v2 = _ := hphi 2 v2 rfl _ rfl
        have e3 : v3 = _ := hphi 3 v3 rfl _ rfl
        have e4 : v4 = _ := hphi 4 v4 rfl _ rfl
        have e5 : v5 = _ := hphi 5 v5 rfl _ rfl
        have e6 : v6 = _ := hphi 6 v6 rfl _ rfl
        have e7 : v7 = _ := hphi 7 v7 rfl _ rfl
        have e8 : v8 = _ := hphi 8 v8 rfl _ rfl
        have e9 : v9 = _ := hphi 9 v9 rfl _ rfl
        obtain ⟨ab, ea, hab, hak⟩ : ∃ b0, v10 = .pointer (some ⟨b0, 0, none⟩) ∧ w1.heap.size ≤ b0 ∧ Bk W b0 35 #[.string ⟨#[]⟩, .int .i64 0, .slice none 0 0, .slice none 0 0] := hphi 10 v10 rfl
        subst e0 e1 e2 e3 e4 e5 e6 e7 e8 e9 ea
        clear hphi hv
        have f0 := hak.free 0; have f1 := hak.free 1; have f2 := hak.free 2; have f3 := hak.free 3
        have c0 := hak.cell 0; have c1 := hak.cell 1; have c2 := hak.cell 2; have c3 := hak.cell 3
        simp only [List.getElem?_toArray, List.getElem?_cons_succ, List.getElem?_cons_zero] at c0 c1 c2 c3
        obtain ⟨W3, hW3⟩ : ∃ W3, (((W.setCell ⟨ab, 0, none⟩ (.string tl)).setCell ⟨ab, 1, none⟩ (.int .i64 kind)).setCell ⟨ab, 2, none⟩ (.slice dA dn dc)).setCell ⟨ab, 3, none⟩ (.slice vA vn vc) = W3 := ⟨_, rfl⟩
        have HK3 : Hid (Bk W3 ab 35 #[.string tl, .int .i64 kind, .slice dA dn dc, .slice vA vn vc]) := by
          rw [← hW3]
          have := (((hak.set 0 (.string tl)).set 1 (.int .i64 kind)).set 2 (.slice dA dn dc)).set 3 (.slice vA vn vc)
          exact this
        have HB3 : Hid (Below w1.heap.size w1 W3) := by
          rw [← hW3]
          exact (((hR.setCell (p := ⟨ab, 0, none⟩) hab _).setCell (p := ⟨ab, 1, none⟩) hab _).setCell (p := ⟨ab, 2, none⟩) hab _).setCell (p := ⟨ab, 3, none⟩) hab _
        have HBW3 : Hid (Below w.heap.size w W3) := HB1.out.trans (HB3.out.mono (by omega))
        have hz3 := HB3.out.size
        have HG3 := Lib.hid (HG1.out.below HB3.out (by omega))
        have g0' := HG3.out.cell 0; have x0 := HK3.out.cell 0
        simp at g0' x0
        have HDE := Lib.hid (deps_any (some ⟨b, off, none⟩) n c w.heap.size ts tl W3 (H0.out.below HBW3.out (Nat.le_refl _)) (fun t ht => (HOK.out t ht).below HBW3.out (Nat.le_refl _)) (by omega) hnc hcm HLS.out)
        clear g0 hR hak
        go_wp2_with fail
        refine HDE.out.mono ?_
        rintro e w4 ⟨aA, an, ac, all, err, rfl, hs4, hn4, hc4, hb4, hf4⟩
        have HBW4 : Hid (Below w.heap.size w w4) := HBW3.out.trans (hb4.mono (by omega))
        have hz4 := hb4.size
        have HG4 := Lib.hid (HG3.out.below hb4 (by omega)); have HK4 := Lib.hid (HK3.out.below hb4 HK3.out.lt)
        have hak3 := HK3.out.lt
        have HFN : Hid (err = 0 ∧ Asc all ∧ ∀ x, x ∈ all ↔ Rch (nxT ts) tl x) := by
          rcases hf4 with ⟨h, _⟩ | ⟨_, h, _⟩ | ⟨_, _, h1, h2, h3⟩
          · exact absurd HVL.out h
          · rw [HIT.out] at h; cases h
          · exact ⟨h1, h2, h3⟩
        have HAL := Lib.hid hs4
        have HAN : Hid (all.length = an) := by have := hs4.1; rw [strs_len] at this; show _ = _; omega
        have han : an ≤ 100 := by
          have h1 := nodup_len all (ts.map Tg.lab) HFN.out.2.1.nodup (fun x hx => (isT_iff ts x).1 (rch_isT ((HFN.out.2.2 x).1 hx)))
          rw [List.length_map, HTL.out, HAN.out] at h1; omega
        obtain rfl : err = 0 := HFN.out.1
        have HIN := Lib.hid (inputs_any (some ⟨b, off, none⟩) n c w.heap.size ts tl 1 w4 (H0.out.below HBW4.out (Nat.le_refl _)) (fun t ht => (HOK.out t ht).below HBW4.out (Nat.le_refl _)) (by omega) hnc hcm HLS.out)
        clear hs4 hb4 hf4 g0' x0 HDE hW3 HG3 HK3 f0 f1 f2 f3 c0 c1 c2 c3
        have g0 := HG4.out.cell 0; have x0 := HK4.out.cell 0
        simp at g0 x0
        go_wp2_with fail
        refine HIN.out.mono ?_
        rintro e w5 ⟨A5, n5, c5, l5, e5, rfl, hs5, hn5, hc5, hb5, hr5⟩
        have HBW5 : Hid (Below w.heap.size w w5) := HBW4.out.trans (hb5.mono (by omega))
        have hz5 := hb5.size
        have HG5 := Lib.hid (HG4.out.below hb5 (by omega)); have HK5 := Lib.hid (HK4.out.below hb5 (by omega))
        have HAL5 : Hid (Sl w5 w5.heap.size 1 aA an (strs all)) := (HAL.out.below hb5 (Nat.le_refl _)).more hz5
        have hfa := inp_facts HVL.out HFT.out (.inl rfl) HFN.out.2.1 HFN.out.2.2 hr5
        obtain rfl : e5 = 0 := hfa.1.2 (.inl rfl)
        have hl5 : n5 = dn + 1 := by
          have h1 := (hfa.2 rfl).2.2.1 rfl
          have h2 := hs5.1; rw [strs_len] at h2
          simp only at h1
          have := HDL.out
          omega
        subst hl5
        clear hs5 hn5 hc5 hb5 hr5 hfa g0 x0 HIN HG4 HK4 HAL
        have g0 := HG5.out.cell 0; have x0 := HK5.out.cell 0; have x2 := HK5.out.cell 2
        simp at g0 x0 x2
        obtain ⟨W6, hW6⟩ : ∃ W6, w5.alloc (.cells #[.slice none 0 0] 24) = W6 := ⟨_, rfl⟩
        have HB6 : Hid (Below w5.heap.size w5 W6) := by rw [← hW6]; exact (Below.refl _ w5).alloc (Nat.le_refl _) _
        have zW6 : W6.heap.size = w5.heap.size + 1 := by rw [← hW6]; simp
        have HQ6 : Hid (Bk W6 w5.heap.size 24 #[.slice none 0 0]) := by rw [← hW6]; exact Bk.new w5 _ _
        have HG6 := Lib.hid (HG5.out.below HB6.out (by omega)); have HK6 := Lib.hid (HK5.out.below HB6.out (by omega))
        obtain ⟨i0, hi, hzi0, hzi1, hzi2⟩ := info_parts infoTgt
        have Hi := Lib.hid hi; have Hz0 := Lib.hid hzi0; have Hz1 := Lib.hid hzi1; have Hz2 := Lib.hid hzi2
        clear hi hzi0 hzi1 hzi2
        obtain ⟨qb, hqb⟩ : ∃ qb : ByteArray → Bool, (fun x => decide (x = tl) || memB all x) = qb := ⟨_, rfl⟩
        have HQB : Hid (∀ x, qb x = (decide (x = tl) || memB all x)) := fun x => by rw [← hqb]
        have HCL : Hid (Clo qb ts) := by rw [← hqb]; exact clo_rch HFN.out.2.2
        clear hqb
        have g6 := (HG5.out.alloc (.cells #[.slice none 0 0] 24)).cell 0
        simp at g6
        have HW6 := Lib.hid hW6
        clear hW6
        go_wp2_with fail
        rw [HW6.out]
        go_loopw [78] (fun q wr => ∃ (j : Nat) (Ap : Option Addr) (np cp : Nat), j ≤ n ∧ q = .int .i64 j ∧ np ≤ j ∧ np ≤ cp ∧ cp ≤ maxLen ∧ Hid (Bk wr w5.heap.size 24 #[.slice Ap np cp]) ∧ Hid (Apd wr (w5.heap.size + 1) 35 4 Ap np cp (flat tgC (part qb (ts.take j)))) ∧ Hid (Below w5.heap.size w5 wr) ∧ w5.heap.size + 1 ≤ wr.heap.size) (fun q _ => n - (intOf q).toNat)
        case atStart => exact ⟨0, none, 0, 0, Nat.zero_le _, rfl, Nat.le_refl _, Nat.le_refl _, Nat.zero_le _, HQ6.out, .inr ⟨rfl, rfl, rfl⟩, HB6.out, by omega⟩
        case round =>
          obtain ⟨j, Ap, np, cp, hj, rfl, hnp, hnpc, hcpm, hQ, hAp, hBel, hwz⟩ := hrel
          have HBr : Hid (Below w.heap.size w wr) := HBW5.out.trans (hBel.out.mono (by omega))
          have HKr := Lib.hid (HK5.out.below hBel.out (by omega)); have HGr := Lib.hid (HG5.out.below hBel.out (by omega))
          by_cases hjn : j < n
          · obtain ⟨b', off', t2, hbe, _, ht2, z0, z1, z2, z3⟩ := (H0.out.below HBr.out (Nat.le_refl _)).tg hjn
            cases hbe
            have HT2 := Lib.hid ht2
            have hjz : (j : Int) < (n : Int) := by omega
            obtain ⟨W7, hW7⟩ : ∃ W7, wr.alloc (.cells #[.string t2.lab, .int .i64 t2.kind, .slice t2.dA t2.dn t2.dc, .slice t2.vA t2.vn t2.vc] 35) = W7 := ⟨_, rfl⟩
            have hk7 : Bk W7 wr.heap.size 35 #[.string t2.lab, .int .i64 t2.kind, .slice t2.dA t2.dn t2.dc, .slice t2.vA t2.vn t2.vc] := by rw [← hW7]; exact Bk.new wr _ _
            have zW7 : W7.heap.size = wr.heap.size + 1 := by rw [← hW7]; simp
            have HB7 : Hid (Below w5.heap.size w5 W7) := by rw [← hW7]; exact hBel.out.alloc hBel.out.size _
            have HQ7 : Hid (Bk W7 w5.heap.size 24 #[.slice Ap np cp]) := by rw [← hW7]; exact hQ.out.alloc _
            have HA7 : Hid (Apd W7 (w5.heap.size + 1) 35 4 Ap np cp (flat tgC (part qb (ts.take j)))) := hAp.out.below (by rw [← hW7]; exact (Below.refl _ wr).alloc (Nat.le_refl _) _)
            have HKK : Hid (Bk W7 ab 35 #[.string tl, .int .i64 kind, .slice dA dn dc, .slice vA vn vc]) := by rw [← hW7]; exact HKr.out.alloc _
            have u0 := hk7.cell 0; have u1 := hk7.cell 1; have u2 := hk7.cell 2; have u3 := hk7.cell 3
            have y0 := HKK.out.cell 0; have q0 := HQ7.out.cell 0; have fq := HQ7.out.free 0
            simp at u0 u1 u2 u3 y0 q0
            have hse := str_dec t2.lab tl
            have HHS := Lib.hid (has21_any aA an an ac w5.heap.size all t2.lab W7 (HAL5.out.below HB7.out (Nat.le_refl _)) (Nat.le_refl _) (by omega))
            rw [List.take_of_length_le (by rw [HAN.out]; exact Nat.le_refl _)] at HHS
            clear ht2 hk7
            cases hq : qb t2.lab with
            | false =>
              have hql := hq
              rw [HQB.out] at hql
              have he1 : decide (t2.lab = tl) = false := by cases h : decide (t2.lab = tl) with | false => rfl | true => rw [h] at hql; simp at hql
              have he2 : memB all t2.lab = false := by rw [he1] at hql; simpa using hql
              rw [he1] at hse
              rw [he2] at HHS
              have HPT : Hid (part qb (ts.take (j + 1)) = part qb (ts.take j)) := by show _ = _; rw [part_take HT2.out, if_neg (by rw [hq]; simp)]
              clear hq hql he1 he2
              go_wp2_with (go_at_call 14; refine HHS.out.mono ?_; rintro e wf ⟨rfl, rfl⟩)
              go_roundw
              case rel => exact ⟨j + 1, Ap, np, cp, hjn, by go_num, by omega, hnpc, hcpm, HQ7.out, by rw [HPT.out]; exact HA7.out, HB7.out, by omega⟩
              case measure => simp [intOf]; omega
            | true =>
              have HPT : Hid (flat tgC (part qb (ts.take (j + 1))) = flat tgC (part qb (ts.take j)) ++ flat tgC [t2]) := by show _ = _; rw [part_take HT2.out, if_pos hq, flat_append]
              have hql := hq
              rw [HQB.out] at hql
              clear hq
              have hcase : decide (t2.lab = tl) = true ∨ (decide (t2.lab = tl) = false ∧ memB all t2.lab = true) := by
                cases h : decide (t2.lab = tl) with
                | true => exact .inl rfl
                | false => rw [h] at hql; exact .inr ⟨rfl, by simpa using hql⟩
              clear hql
              rcases hcase with he1 | ⟨he1, he2⟩
              case' inl => rw [he1] at hse
              case' inr => rw [he1] at hse; rw [he2] at HHS
              all_goals
                clear he1
                go_wp2_with (first
                  | (go_at_call 14; refine HHS.out.mono ?_; rintro e wf ⟨rfl, rfl⟩)
                  | (at_builtin; refine halt_app (.tmp 94) (.tmp 96) 22 rfl ?_))
                refine unhalt ?_
                refine wpList_append_apd (base := w5.heap.size + 1) (size := 4) _ rfl (.tmp 94) (.tmp 96) 22 rfl 35 i0 _ 72 Tryd.underlying22 Hi.out Hz0.out Hz1.out Hz2.out rfl (by decide) Ap np cp (flat tgC (part qb (ts.take j))) rfl ?own_1 (W7.heap.size + 1) _ 1 _ (flat tgC [t2]) rfl ?nw_1 (oneCells_tg t2) ?m1_1 ?m2_1 ?m3_1 ?_
                case own_1 => exact HA7.out.below ((Below.refl _ W7).alloc (Nat.le_refl _) _)
                case nw_1 =>
                  have := Sl.of_bk (n := 1) (size := 4) (Bk.new W7 35 #[.string t2.lab, .int .i64 t2.kind, .slice t2.dA t2.dn t2.dc, .slice t2.vA t2.vn t2.vc]) rfl
                  rw [World.size_alloc] at this
                  rw [show wr.heap.size + 1 = W7.heap.size from zW7.symm]; exact this
                case m1_1 => unfold maxLen; omega
                case m2_1 => omega
                case m3_1 => simp; omega
                intro A8 c8 w8 ho8 hb8 hn8 hm8 _
                have HQ8 : Hid (Bk w8 w5.heap.size 24 #[.slice Ap np cp]) := (HQ7.out.alloc _).below hb8 (by omega)
                have HA8 := Lib.hid ho8
                have HB8 : Hid (Below w5.heap.size w5 w8) := (HB7.out.alloc HB7.out.size _).trans (hb8.mono (by omega))
                have hz8 := hb8.size
                have f8 := HQ8.out.free 0; have q8 := HQ8.out.cell 0
                simp at hz8 q8
                clear ho8 hb8 q0 fq HHS
                go_wp2_with fail
                go_roundw
                case rel =>
                  refine ⟨j + 1, A8, np + 1, c8, hjn, by go_num, by omega, hn8, hm8, ?_, ?_, HB8.out.setCell (p := ⟨w5.heap.size, 0, none⟩) (Nat.le_refl _) _, by have e : ∀ u, (w8.setCell ⟨w5.heap.size, 0, none⟩ u).heap.size = w8.heap.size := fun u => set_size _ _ _; rw [e]; omega⟩
                  · have := HQ8.out.set 0 (.slice A8 (np + 1) c8); show Bk _ _ _ _; simpa using this
                  · show Apd _ _ _ _ _ _ _ _; rw [HPT.out]; exact HA8.out.setCell (by simp) _
                case measure => simp [intOf]; omega
          · have hjz : ¬ (j : Int) < (n : Int) := by omega
            have HPR : Hid (Sl wr wr.heap.size 4 Ap np (flat tgC (part qb ts))) := by
              have := hAp.out.sl; rwa [List.take_of_length_le (by rw [HTL.out]; omega)] at this
            obtain ⟨wp, hwp⟩ : ∃ wp, wp = wr := ⟨_, rfl⟩
            subst hwp
            go_wp2_with fail
            go_loopw [13] (fun q wr => ∃ kd : Nat, 1 ≤ kd ∧ kd ≤ 4 ∧ q = .int .i64 kd ∧ Hid (Below wp.heap.size wp wr)) (fun q _ => 4 - (intOf q).toNat)
            case atStart => exact ⟨1, Nat.le_refl _, by omega, rfl, Below.refl _ _⟩
            case round =>
              obtain ⟨kd, hk1, hk4, rfl, hB9⟩ := hrel
              have hz9 := hB9.out.size
              have HBa : Hid (Below w.heap.size w wr) := HBr.out.trans (hB9.out.mono HBr.out.size)
              by_cases hk3 : kd ≤ 3
              · have hkz3 : (kd : Int) ≤ 3 := by omega
                have HK9 := Lib.hid (HKr.out.below hB9.out (by omega)); have HG9 := Lib.hid (HGr.out.below hB9.out (by omega)); have HQ9 := Lib.hid (hQ.out.below hB9.out (by omega))
                have g0 := HG9.out.cell 0; have x0 := HK9.out.cell 0
                simp at g0 x0
                have HI1 := Lib.hid (inputs_any (some ⟨b, off, none⟩) n c w.heap.size ts tl (kd : Int) wr (H0.out.below HBa.out (Nat.le_refl _)) (fun t ht => (HOK.out t ht).below HBa.out (Nat.le_refl _)) HBa.out.size hnc hcm HLS.out)
                go_wp2_with fail
                refine HI1.out.mono ?_
                rintro e wa ⟨Aa, na, ca, la, ea, rfl, hsa, hna, hca, hba, hra⟩
                have hza := hba.size
                have HBb : Hid (Below wp.heap.size wp wa) := hB9.out.trans (hba.mono hz9)
                have HBc : Hid (Below w.heap.size w wa) := HBr.out.trans (HBb.out.mono HBr.out.size)
                have HSA := Lib.hid hsa; have HRA := Lib.hid hra
                have HKa := Lib.hid (HKr.out.below HBb.out (by omega)); have HGa := Lib.hid (HGr.out.below HBb.out (by omega)); have HQa := Lib.hid (hQ.out.below HBb.out (by omega))
                have hnam : na ≤ maxLen := Nat.le_trans hna hca
                have hnal : la.length = na := by have := hsa.1; rw [strs_len] at this; omega
                have HNAL := Lib.hid hnal
                have hna63 : na ≤ 9223372036854775807 := by unfold maxLen at hnam; omega
                have HI2 := Lib.hid (inputs_any Ap np cp wp.heap.size (part qb ts) tl (kd : Int) wa (HPR.out.below HBb.out (Nat.le_refl _)) (fun t ht => ((HOK.out t (List.mem_filter.1 ht).1).below HBc.out (Nat.le_refl _)).more (Nat.le_trans HBr.out.size (Nat.le_refl _))) HBb.out.size hnpc hcpm HLS.out)
                clear hsa hna hca hba hra g0 x0 HI1 hnal
                have g0 := HQa.out.cell 0; have x0 := HKa.out.cell 0
                simp at g0 x0
                go_wp2_with fail
                refine HI2.out.mono ?_
                rintro e wb ⟨Ab, nb, cb, lb, eb, rfl, hsb, hnb, hcb, hbb, hrb⟩
                obtain ⟨rfl, rfl⟩ := HRA.out.same (inp_part HVL.out HCL.out (by rw [HQB.out]; simp) hrb)
                have HBd : Hid (Below wp.heap.size wp wb) := HBb.out.trans (hbb.mono HBb.out.size)
                have HKb := Lib.hid (HKr.out.below HBd.out (by omega))
                have HSAb : Hid (Sl wb wb.heap.size 1 Aa na (strs la)) := (HSA.out.below hbb (Nat.le_refl _)).more hbb.size
                have HSM : Hid (Calls Tryd.prog 11 #[.slice Aa na ca, .slice Ab nb cb] wb fun e w' => e = .returned (.bool true) ∧ ∃ k, w' = wb.drewN k) :=
                  (sameS_any Aa Ab na ca nb cb wb.heap.size la la wb HSAb.out hsb hnam).mono (fun e w' h => ⟨h.1.trans (ret_bool (decide_eq_true rfl)), h.2⟩)
                have hfa := inp_facts HVL.out HFT.out (by omega : (kd : Int) = 1 ∨ (kd : Int) = 2 ∨ (kd : Int) = 3) HFN.out.2.1 HFN.out.2.2 HRA.out
                have HFA := Lib.hid hfa
                clear hsb hnb hcb hbb hrb g0 x0 HI2 hfa
                go_wp2_with fail
                refine HSM.out.mono ?_
                rintro e wc ⟨rfl, qd, hqd⟩
                have HBe : Hid (Below wp.heap.size wp wc) := by rw [hqd]; exact below_drewN HBd.out qd
                have HSAc : Hid (Sl wc wc.heap.size 1 Aa na (strs la)) := by rw [hqd]; exact HSAb.out.drewN qd
                have HKc : Hid (Bk wc ab 35 #[.string tl, .int .i64 kind, .slice dA dn dc, .slice vA vn vc]) := HKr.out.below HBe.out (by omega)
                clear hqd HSM
                have x1 := HKc.out.cell 1
                simp at x1
                by_cases hmk : kd = 1 ∨ kind = 2
                case neg =>
                  have hea : ea ≠ 0 := fun h => by
                    rcases HFA.out.1.1 h with h | h
                    · exact hmk (.inl (by omega))
                    · exact hmk (.inr h)
                  have p1 : (ea == 0) = false := by rw [beq_eq_false_iff_ne]; exact hea
                  have p2 : ((kd : Int) == 1) = false := by rw [beq_eq_false_iff_ne]; intro h; exact hmk (.inl (by omega))
                  have p3 : (kind == 2) = false := by rw [beq_eq_false_iff_ne]; intro h; exact hmk (.inr h)
                  have p4 : (ea != 0) = true := by rw [bne_iff_ne]; exact hea
                  clear hmk hea
                  go_wp2_with fail
                  go_roundw
                  case rel => exact ⟨kd + 1, by omega, by omega, by go_num, HBe.out⟩
                  case measure => simp [intOf]; omega
                obtain rfl : ea = 0 := HFA.out.1.2 (by rcases hmk with h | h; exact .inl (by omega); exact .inr h)
                obtain ⟨hasc, hnm, hm1, hm2, hm3⟩ := HFA.out.2 rfl
                have HAS := Lib.hid hasc; have HNM := Lib.hid hnm
                have hkc : kd = 1 ∨ (kd = 2 ∧ na = an + 1 ∧ kind = 2) ∨ (kd = 3 ∧ na = 1 ∧ kind = 2) := by
                  rcases (by omega : kd = 1 ∨ kd = 2 ∨ kd = 3) with h | h | h
                  · exact .inl h
                  · refine .inr (.inl ⟨h, ?_, ?_⟩)
                    · have := hm2 (by omega); rw [HNAL.out, HAN.out] at this; exact this
                    · rcases hmk with h' | h'
                      · omega
                      · exact h'
                  · refine .inr (.inr ⟨h, ?_, ?_⟩)
                    · have := hm3 (by omega); rw [HNAL.out] at this; exact this
                    · rcases hmk with h' | h'
                      · omega
                      · exact h'
                clear hasc hnm hm1 hm2 hm3 hmk HFA
                rcases hkc with hk | ⟨hk, hna, hki⟩ | ⟨hk, hna, hki⟩
                case' inl => subst hk
                case' inr.inl => have qn : ((na : Int) != (an : Int) + 1) = false := (by rw [bne_eq_false_iff_eq]; omega); clear hna; subst hk; subst hki
                case' inr.inr => have qn : ((na : Int) != 1) = false := (by rw [bne_eq_false_iff_eq]; omega); clear hna; subst hk; subst hki
                all_goals
                  go_wp2_with fail
                  go_loopw [164] (fun q wr => ∃ m : Nat, m ≤ la.length ∧ q = .int .i64 m ∧ Hid (Below wc.heap.size wc wr)) (fun q _ => la.length - (intOf q).toNat)
                  case atStart => exact ⟨0, Nat.zero_le _, rfl, Below.refl _ _⟩
                  case round =>
                    obtain ⟨m, hm, rfl, hBf⟩ := hrel
                    have hml := HNAL.out
                    by_cases hmn : m < la.length
                    · obtain ⟨rb, ro, x, hre, hrb2, hx, s0⟩ := (HSAc.out.below hBf.out (Nat.le_refl _)).str_at (k := m) (by omega)
                      have hmz : (m : Int) < (la.length : Int) := by omega
                      subst hre
                      have HXM := Lib.hid (HNM.out x (List.mem_of_getElem? hx))
                      have HXX := Lib.hid hx
                      have HNA := Lib.hid (named_any x wr (by have := HXM.out.2; unfold maxLen; omega))
                      rw [HXM.out.1] at HNA
                      rw [hml] at hmz
                      clear hx
                      cases m with
                      | zero =>
                        rw [Nat.add_zero] at s0
                        have hmz0 : (0 : Int) < (na : Int) := by omega
                        go_wp2_with (go_at_call 15; refine HNA.out.mono ?_; rintro e wd ⟨rfl, hbd⟩; refine halt_ ?_)
                        refine unhalt ?_
                        have HBg : Hid (Below wc.heap.size wc wd) := hBf.out.trans (hbd.mono hBf.out.size)
                        clear hbd
                        go_wp2_with fail
                        go_roundw
                        case rel => exact ⟨1, hmn, by go_num, HBg.out⟩
                        case measure => simp [intOf]; omega
                      | succ m =>
                        obtain ⟨rb2, ro2, y, hre2, hrb3, hy, s1⟩ := (HSAc.out.below hBf.out (Nat.le_refl _)).str_at (k := m) (by omega)
                        cases hre2
                        have HLT : Hid (less y x = true) := by
                          have h1 := List.getElem?_eq_some_iff.1 hy
                          have h2 := List.getElem?_eq_some_iff.1 HXX.out
                          have := List.pairwise_iff_getElem.1 HAS.out m (m + 1) h1.1 h2.1 (by omega)
                          rw [h1.2, h2.2] at this; exact this
                        have HS0 := Lib.hid s0; have HS1 := Lib.hid s1
                        have hle := less_str y x
                        rw [HLT.out] at hle
                        clear hy s0 s1
                        have s0 := HS0.out
                        go_wp2_with (go_at_call 15; refine HNA.out.mono ?_; rintro e wd ⟨rfl, hbd⟩; refine halt_ ?_)
                        refine unhalt ?_
                        have HBg : Hid (Below wc.heap.size wc wd) := hBf.out.trans (hbd.mono hBf.out.size)
                        have hz10 := hBf.out.size
                        have s1 := (hbd.cell (p := ⟨rb, ro + m, none⟩) (by show rb < _; omega)).trans HS1.out
                        have hmz2 : (m : Int) < (na : Int) := by omega
                        clear hbd s0
                        go_wp2_with fail
                        go_roundw
                        case rel => exact ⟨m + 1 + 1, hmn, by go_num, HBg.out⟩
                        case measure => simp [intOf]; omega
                    · have hmz : ¬ (m : Int) < (la.length : Int) := by omega
                      rw [hml] at hmz
                      have HBh : Hid (Below wp.heap.size wp wr) := HBe.out.trans (hBf.out.mono HBe.out.size)
                      go_wp2_with fail
                      go_roundw
                      case rel => first | exact ⟨2, by omega, by omega, by go_num, HBh.out⟩ | exact ⟨3, by omega, by omega, by go_num, HBh.out⟩ | exact ⟨4, by omega, by omega, by go_num, HBh.out⟩
                      case measure => simp [intOf]
              · have hkz3 : ¬ (kd : Int) ≤ 3 := by omega
                go_wp2_with fail
                refine (awake_any _).mono ?_
                rintro e wz ⟨rfl, hbz⟩
                have HBz := Lib.hid (HBa.out.trans (hbz.mono HBa.out.size)); clear hbz
                go_wp2_with fail
                go_ret
                exact ⟨rfl, HBz.out⟩
end Go.Proofs.YtiphbincnnppdaaDoor

namespace Go.Proofs.YtiphbincnnppdaaDoor
open Go.ChangeShapes Go.WideShapes Go.ChangeAt Go.RowKit Go.Joins Go.Deep

section
variable {H : Type} {enc : TypeId × Value → H} {W : World} {base : Nat} {v : Value} {d : DataW H} {p : List MemPlace} {r : Reach} {b0 : Nat} {sp : Nat → Bool} {held : Bool}
theorem wf_u8 {n : Int} (h : (Lit.int .u8 n).wf = true) : 0 ≤ n ∧ n < 256 := by
  simp only [Lit.wf, Bool.and_eq_true, decide_eq_true_eq] at h
  have h1 : IntKind.u8.min = 0 := by decide
  have h2 : IntKind.u8.max = 255 := by decide
  rw [h1, h2] at h
  omega
set_option maxRecDepth 100000 in
theorem open_u8 (hv : Value.okWide Tryd.prog W r b0 5 v) (h : DataW.Trod enc Tryd.prog W base sp held 5 v d p) : ∃ z : Nat, v = .int .u8 (z : Int) ∧ z < 256 := by
  obtain ⟨s, rfl⟩ := okWide_int Tryd.underlying5 hv
  obtain ⟨fuel, hf⟩ := h
  obtain ⟨a, ha, _, wa⟩ := DataW.trod_int Tryd.underlying5 hf
  have e1 : [Value.int .u8 s] = [Value.int .u8 a] := ha
  simp at e1
  have := wf_u8 wa
  exact ⟨s.toNat, by rw [Int.toNat_of_nonneg (by omega)], by omega⟩
end
end Go.Proofs.YtiphbincnnppdaaDoor
