/-
  Lemmas: What is affected by paths, and what may be seen, in plain Lean. Directories, the paths of build files and of modules. graph.Visible and the reference's Visible. buildfile.Join, graph.loadFile, graph.checkTarget. graph.checkTarget. slices.SortFunc of targets by their labels. objectname.Valid. tree.isPath. strings.Builder in a block of the call's own: what its writers do at this program (copyCheck 80, WriteByte 79, WriteString 71, String 70). Encodings of numbers, texts and digests as lists of bytes, in plain Lean, and that reading undoes writing. No program in sight.
-/
import Derived.IntWalk
import Derived.Lib.Builder
import Derived.Lib.AppendStr
import Derived.Lib.UnsafeStr
import Derived.Laws.Externs
import Derived.Test.YtddlohbhchjjhaaGreatDoorU6

namespace Go.Proofs.YtddlohbhchjjhaaGreatDoor

def buildW : ByteArray := ⟨#[66, 85, 73, 76, 68]⟩
def slBuildW : ByteArray := ⟨#[47, 66, 85, 73, 76, 68]⟩
def pkW : ByteArray := ⟨#[46, 112, 107]⟩
/-- what precedes the last slash -/
def dirS (s : ByteArray) : ByteArray := s.extract 0 (Lib.lastIndexByte s 47).toNat
def bldS (d : ByteArray) : ByteArray := if d = ⟨#[]⟩ then buildW else d ++ slBuildW
/-- a target whose module or build file is among paths -/
def hitB (ps : List ByteArray) (lab : ByteArray) : Bool := memB ps (lab ++ pkW) || memB ps (bldS (dirS lab))
/-- what the first k targets affect -/
def AffK (ts : List Tg) (ps : List ByteArray) (k : Nat) (x : ByteArray) : Prop := ∃ t ∈ ts.take k, hitB ps t.lab = true ∧ (x = t.lab ∨ Rch (nxT ts) x t.lab)
theorem AffK.zero (ts : List Tg) (ps : List ByteArray) (x : ByteArray) : ¬ AffK ts ps 0 x := by rintro ⟨t, ht, _⟩; simp at ht
theorem AffK.miss {ts : List Tg} {ps : List ByteArray} {k : Nat} {t : Tg} (ht : ts[k]? = some t) (hm : hitB ps t.lab = false) (x : ByteArray) : AffK ts ps (k + 1) x ↔ AffK ts ps k x := by
  unfold AffK
  rw [take_snoc ht]
  constructor
  · rintro ⟨u, hu, h1, h2⟩
    rcases List.mem_append.1 hu with hu | hu
    · exact ⟨u, hu, h1, h2⟩
    · rw [List.mem_singleton.1 hu, hm] at h1; cases h1
  · rintro ⟨u, hu, h⟩
    exact ⟨u, List.mem_append_left _ hu, h⟩
theorem AffK.hit {ts : List Tg} {ps : List ByteArray} {k : Nat} {t : Tg} (ht : ts[k]? = some t) (hm : hitB ps t.lab = true) (x : ByteArray) : AffK ts ps (k + 1) x ↔ AffK ts ps k x ∨ x = t.lab ∨ Rch (nxT ts) x t.lab := by
  unfold AffK
  rw [take_snoc ht]
  constructor
  · rintro ⟨u, hu, h1, h2⟩
    rcases List.mem_append.1 hu with hu | hu
    · exact .inl ⟨u, hu, h1, h2⟩
    · rw [List.mem_singleton.1 hu] at h2; exact .inr h2
  · rintro (⟨u, hu, h⟩ | h)
    · exact ⟨u, List.mem_append_left _ hu, h⟩
    · exact ⟨t, by simp, hm, h⟩
theorem rch_isT_from {ts : List Tg} {a b : ByteArray} (h : Rch (nxT ts) a b) : isT ts a = true := by
  obtain ⟨n, hn⟩ := h
  cases n with
  | zero => exact (nxT_mem hn).2
  | succ n => obtain ⟨c, hc, _⟩ := Stp.uncons hn; exact (nxT_mem hc).2
theorem AffK.isT {ts : List Tg} {ps : List ByteArray} {k : Nat} {x : ByteArray} (h : AffK ts ps k x) : isT ts x = true := by
  obtain ⟨t, ht, _, h | h⟩ := h
  · rw [h]; exact (isT_iff ts _).2 (List.mem_map_of_mem (List.mem_of_mem_take ht))
  · exact rch_isT_from h
/-- What Affected answers. -/
def AffR (ts : List Tg) (ps : List ByteArray) (l : List ByteArray) : Prop := (¬ Vld ts ∧ l = []) ∨ (Vld ts ∧ Asc l ∧ ∀ x, x ∈ l ↔ AffK ts ps ts.length x)
theorem AffR.same {ts : List Tg} {ps l m : List ByteArray} (h : AffR ts ps l) (g : AffR ts ps m) : l = m := by
  rcases h with ⟨h1, h2⟩ | ⟨h1, h2, h3⟩
  · rcases g with ⟨_, g2⟩ | ⟨g1, _⟩
    · rw [h2, g2]
    · exact absurd g1 h1
  · rcases g with ⟨g1, _⟩ | ⟨_, g2, g3⟩
    · exact absurd h1 g1
    · exact asc_ext h2 g2 fun x => (h3 x).trans (g3 x).symm
/-- whether a target may be depended on from a label -/
def visT (lab : ByteArray) (vis : List ByteArray) (fr : ByteArray) : Bool :=
  decide (dirS lab = dirS fr) || vis.any fun v => decide (v = starW) || (decide (v = fr) || (Lib.hasSuffix (bl v) [47] && Lib.hasPrefix (bl fr) (bl v)))
end Go.Proofs.YtddlohbhchjjhaaGreatDoor

namespace Go.Proofs.YtddlohbhchjjhaaGreatDoor
open Go.RowKit Go.Maps

theorem wrap_sm {x : Int} (h1 : -9223372036854775808 ≤ x) (h2 : x < 9223372036854775808) : IntKind.i64.wrap x = x := by
  simp [IntKind.wrap, IntKind.bits, IntKind.signed]; omega
theorem dir_none {s : ByteArray} (h : Lib.lastIndexByte s 47 = -1) : dirS s = s.extract 0 0 := by unfold dirS; rw [h]; rfl
theorem dir_some {s : ByteArray} {k : Nat} (h : Lib.lastIndexByte s 47 = (k : Int)) : dirS s = s.extract 0 k := by unfold dirS; rw [h]; rfl
theorem last_spec (s : ByteArray) : Lib.lastIndexByte s 47 = -1 ∨ ∃ k : Nat, k < s.size ∧ Lib.lastIndexByte s 47 = (k : Int) := by
  rcases Lib.lastIdx_spec s 47 s.size with ⟨h, _⟩ | ⟨i, h1, h2, _⟩
  · exact .inl h
  · exact .inr ⟨i, h1, h2⟩
theorem dir_size (s : ByteArray) : (dirS s).size ≤ s.size := by unfold dirS; simp; omega

theorem directory_any (s : ByteArray) (w : World) (hs : s.size ≤ 1000000) : Calls Tryz.prog 48 #[.string s] w fun e w' => e = .returned (.string (dirS s)) ∧ w = w' := by
  have HL := Lib.hid (Tryz.strings_LastIndexByte s 47 (by omega) w)
  go_enter Tryz.func48, Tryz.ntmps48
  rcases last_spec s with h | ⟨k, hk, h⟩
  · have HD := Lib.hid (dir_none h)
    rw [h] at HL
    have h2 : max (-1 : Int) 0 = 0 := by decide
    clear h
    go_wp2_with (go_at_call 80; refine HL.out.mono ?_; rintro e w1 ⟨rfl, rfl⟩)
    go_ret
    exact ⟨by rw [HD.out]; first | rfl | simp, rfl⟩
  · have HD := Lib.hid (dir_some h)
    rw [h] at HL
    have h0 : ¬ (k : Int) < 0 := by omega
    have h1 : (k : Int) ≤ (s.size : Int) := by omega
    have h2 : max (k : Int) 0 = (k : Int) := by omega
    clear h
    go_wp2_with (go_at_call 80; refine HL.out.mono ?_; rintro e w1 ⟨rfl, rfl⟩)
    go_ret
    exact ⟨by rw [HD.out]; rfl, rfl⟩
theorem buildPath_any (d : ByteArray) (w : World) (hs : d.size ≤ 1000000) : Calls Tryz.prog 47 #[.string d] w fun e w' => e = .returned (.string (bldS d)) ∧ w = w' := by
  go_enter Tryz.func47, Tryz.ntmps47
  have h1 : (d.toList == []) = decide (d = ⟨#[]⟩) := str_lit d _
  by_cases e1 : d = ⟨#[]⟩
  · rw [decide_eq_true e1] at h1
    have HB : Hid (bldS d = buildW) := if_pos e1
    have h1' : (d.toList == []) = true := h1
    clear h1 e1
    go_wp2_with fail
    go_ret
    exact ⟨by rw [HB.out]; rfl, rfl⟩
  · rw [decide_eq_false e1] at h1
    have HB : Hid (bldS d = d ++ slBuildW) := if_neg e1
    have h1' : (d.toList == []) = false := h1
    have hcat : ¬ (9223372036854775807 < d.size + (⟨#[47, 66, 85, 73, 76, 68]⟩ : ByteArray).size) := by
      have : (⟨#[47, 66, 85, 73, 76, 68]⟩ : ByteArray).size = 6 := rfl
      omega
    clear h1 e1
    go_wp2_with fail
    go_ret
    exact ⟨by rw [HB.out]; rfl, rfl⟩
theorem modulePath_any (s : ByteArray) (w : World) (hs : s.size ≤ 1000000) : Calls Tryz.prog 77 #[.string s] w fun e w' => e = .returned (.string (s ++ pkW)) ∧ w = w' := by
  have hcat : ¬ (9223372036854775807 < s.size + (⟨#[46, 112, 107]⟩ : ByteArray).size) := by
    have : (⟨#[46, 112, 107]⟩ : ByteArray).size = 3 := rfl
    omega
  go_enter Tryz.func77, Tryz.ntmps77
  go_wp2_with fail
  go_ret
  exact ⟨rfl, rfl⟩

/-! ### the reference's -/
theorem lastIdx_ge {s : ByteArray} {c : Int} {k : Nat} (h : ∀ j, k ≤ j → j < s.size → ((s.data[j]!).toNat : Int) ≠ c) : ∀ m, k ≤ m → m ≤ s.size → Lib.lastIdx s c m = Lib.lastIdx s c k := by
  intro m
  induction m with
  | zero => intro h1 _; obtain rfl : k = 0 := by omega
            rfl
  | succ m ih =>
    intro h1 h2
    rcases Nat.eq_or_lt_of_le h1 with e | e
    · rw [e]
    · show (if ((s.data[m]!).toNat : Int) = c then (m : Int) else Lib.lastIdx s c m) = _
      rw [if_neg (h m (by omega) (by omega))]
      exact ih (by omega) (by omega)
theorem byte_at (s : ByteArray) (j : Nat) (hj : j < s.size) : s.data[j]! = s[j] := LastIndex.byteBang s j hj
theorem rdir_any (s : ByteArray) (w : World) (hs : s.size ≤ 1000000) : Calls Tryz.prog 60 #[.string s] w fun e w' => e = .returned (.string (dirS s)) ∧ w = w' := by
  have hw0 : IntKind.i64.wrap ((s.size : Int) - 1) = (s.size : Int) - 1 := wrap_sm (by omega) (by omega)
  go_enter Tryz.func60, Tryz.ntmps60
  go_wp2_with fail
  go_loop [3] (fun i => ∃ k : Nat, k ≤ s.size ∧ i = .int .i64 ((k : Int) - 1) ∧ Hid (∀ j, k ≤ j → j < s.size → ((s.data[j]!).toNat : Int) ≠ 47)) (fun i => (intOf i + 1).toNat)
  case atStart => exact ⟨s.size, Nat.le_refl _, rfl, fun j h1 h2 => by omega⟩
  case round =>
    obtain ⟨k, hk, rfl, hN⟩ := hrel
    cases k with
    | zero =>
      have HD : Hid (dirS s = s.extract 0 0) := dir_none (by unfold Lib.lastIndexByte; rw [lastIdx_ge hN.out _ (Nat.zero_le _) (Nat.le_refl _)]; rfl)
      go_wp2_with fail
      go_ret
      exact ⟨by rw [HD.out]; simp; rfl, rfl⟩
    | succ k =>
      have hks : k < s.size := by omega
      have e0 : ((k + 1 : Nat) : Int) - 1 = (k : Int) := by omega
      rw [e0]
      have hp : ¬ (k : Int) < 0 := by omega
      have hl : (k : Int) < (s.size : Int) := by omega
      have hle : (k : Int) ≤ (s.size : Int) := by omega
      by_cases h47 : s[k] = 47
      · have t1 : (((s[k].toNat : Nat) : Int) == 47) = true := by simp [h47]
        have HD : Hid (dirS s = s.extract 0 k) := dir_some (by
          unfold Lib.lastIndexByte
          rw [lastIdx_ge hN.out _ hk (Nat.le_refl _)]
          show (if ((s.data[k]!).toNat : Int) = 47 then (k : Int) else _) = _
          rw [byte_at s k hks, if_pos (by rw [h47]; rfl)])
        clear h47 hN e0
        go_wp2_with fail
        go_ret
        exact ⟨by rw [HD.out]; rfl, rfl⟩
      · have t1 : (((s[k].toNat : Nat) : Int) == 47) = false := by
          rw [beq_eq_false_iff_ne]; intro e
          apply h47
          apply UInt8.toNat_inj.1
          show s[k].toNat = 47
          omega
        have HN2 : Hid (∀ j, k ≤ j → j < s.size → ((s.data[j]!).toNat : Int) ≠ 47) := fun j h1 h2 => by
          rcases Nat.eq_or_lt_of_le h1 with e | e
          · subst e; rw [byte_at s k hks]
            rw [beq_eq_false_iff_ne] at t1; exact t1
          · exact hN.out j (by omega) h2
        have hw1 : IntKind.i64.wrap ((k : Int) - 1) = (k : Int) - 1 := wrap_sm (by omega) (by omega)
        clear h47 hN e0
        go_wp2_with fail
        go_round
        case rel => exact ⟨k, by omega, by first | rfl | go_num, HN2.out⟩
        case measure => simp [intOf] <;> omega
theorem prefix_iff (s p : ByteArray) : Lib.hasPrefix (bl s) (bl p) = (decide (p.size ≤ s.size) && decide (s.extract 0 p.size = p)) := by
  show p.data.toList.isPrefixOf s.data.toList = _
  rw [Bool.eq_iff_iff, List.isPrefixOf_iff_prefix, List.prefix_iff_eq_take, Bool.and_eq_true, decide_eq_true_iff, decide_eq_true_iff]
  have hx : (s.extract 0 p.size).data.toList = s.data.toList.take p.size := by rw [extract_list]; simp
  constructor
  · intro h
    have hl := congrArg List.length h
    simp at hl
    refine ⟨by omega, ?_⟩
    apply data_inj
    rw [hx]
    exact h.symm
  · rintro ⟨_, h⟩
    have := congrArg (fun b : ByteArray => b.data.toList) h
    rw [hx] at this
    exact this.symm
theorem begins_any (s p : ByteArray) (w : World) (hp : p.size ≤ maxLen) : Calls Tryz.prog 61 #[.string s, .string p] w fun e w' => e = .returned (.bool (Lib.hasPrefix (bl s) (bl p))) ∧ w = w' := by
  rw [prefix_iff]
  have hp' : p.size ≤ 9223372036854775807 := by unfold maxLen at hp; exact hp
  go_enter Tryz.func61, Tryz.ntmps61
  by_cases h : p.size ≤ s.size
  · have HV : Hid ((decide (p.size ≤ s.size) && decide (s.extract 0 p.size = p)) = decide (s.extract 0 p.size = p)) := by show _ = _; rw [decide_eq_true h, Bool.true_and]
    have h1 : ¬ (s.size : Int) < (p.size : Int) := by omega
    have h2 : (p.size : Int) ≤ (s.size : Int) := by omega
    have hd := str_dec (s.extract 0 p.size) p
    clear h
    go_wp2_with fail
    go_ret
    exact ⟨ret_bool (by rw [HV.out]), rfl⟩
  · have HV : Hid ((decide (p.size ≤ s.size) && decide (s.extract 0 p.size = p)) = false) := by show _ = _; rw [decide_eq_false h, Bool.false_and]
    have h1 : (s.size : Int) < (p.size : Int) := by omega
    have h2 : ¬ (p.size : Int) ≤ (s.size : Int) := by omega
    clear h
    go_wp2_with fail
    go_ret
    exact ⟨ret_bool (by rw [HV.out]), rfl⟩
end Go.Proofs.YtddlohbhchjjhaaGreatDoor

namespace Go.Proofs.YtddlohbhchjjhaaGreatDoor
open Go.RowKit Go.Maps

/-- what one element of Visible lets by -/
def visP (fr v : ByteArray) : Bool := decide (v = starW) || (decide (v = fr) || (Lib.hasSuffix (bl v) [47] && Lib.hasPrefix (bl fr) (bl v)))
theorem any_step {p : ByteArray → Bool} {l : List ByteArray} {k : Nat} {x : ByteArray} (h : ∀ y ∈ l.take k, p y = false) (hx : l[k]? = some x) (hp : p x = false) : ∀ y ∈ l.take (k + 1), p y = false := fun y hy => by
  rw [take_snoc hx] at hy
  rcases List.mem_append.1 hy with hy | hy
  · exact h y hy
  · rw [List.mem_singleton.1 hy]; exact hp
def VsbEnd (r : Bool) (w : World) (e : Ending) (w' : World) : Prop := e = .returned (.bool r) ∧ Below w.heap.size w w'
theorem vis_dir {lab fr : ByteArray} {vis : List ByteArray} (h : dirS lab = dirS fr) : visT lab vis fr = true := by unfold visT; rw [decide_eq_true h]; rfl
theorem vis_nodir {lab fr : ByteArray} {vis : List ByteArray} (h : dirS lab ≠ dirS fr) : visT lab vis fr = vis.any (visP fr) := by unfold visT; rw [decide_eq_false h, Bool.false_or]; rfl

set_option maxRecDepth 100000 in
set_option maxHeartbeats 4000000 in
theorem visible_any (t : Tg) (fr : ByteArray) (B : Nat) (w : World) (hok : TgOk w B t) (hB : B ≤ w.heap.size) (hl : t.lab.size ≤ 1000000) (hf : fr.size ≤ 1000000) :
    Calls Tryz.prog 17 #[tgV t, .string fr] w (VsbEnd (visT t.lab t.vis fr) w) := by
  have hvl := hok.vlen
  have HVS := Lib.hid hok.vs
  have HV0 := Lib.hid hok.v
  have hvm : t.vn ≤ 9223372036854775807 := by have h1 := hok.vle; have h2 := hok.vmax; unfold maxLen at h2; omega
  clear hok
  obtain ⟨lab, kind, dA, dn, dc, deps, vA, vn, vc, vis⟩ := t
  simp only at hvl HVS HV0 hvm hl ⊢
  unfold tgV
  simp only
  obtain ⟨W0, hW0⟩ : ∃ W0, w.alloc (.cells #[.string lab, .int .i64 kind, .slice dA dn dc, .slice vA vn vc] 35) = W0 := ⟨_, rfl⟩
  have HB0 : Hid (Below w.heap.size w W0) := by rw [← hW0]; exact (Below.refl _ w).alloc (Nat.le_refl _) _
  have HK0 : Hid (Bk W0 w.heap.size 35 #[.string lab, .int .i64 kind, .slice dA dn dc, .slice vA vn vc]) := by rw [← hW0]; exact Bk.new w _ _
  have HV := Lib.hid (HV0.out.below HB0.out hB)
  have HD1 := Lib.hid (directory_any lab W0 hl)
  have HD2 := Lib.hid (directory_any fr W0 hf)
  have x0 := HK0.out.cell 0; have x3 := HK0.out.cell 3
  simp at x0 x3
  clear HV0
  go_enter Tryz.func17, Tryz.ntmps17
  have hdd := str_dec (dirS lab) (dirS fr)
  by_cases hd : dirS lab = dirS fr
  · have HR := Lib.hid (vis_dir (vis := vis) hd)
    rw [decide_eq_true hd] at hdd
    clear hd
    rw [← hW0] at x0 x3
    have HW0 := Lib.hid hW0
    clear hW0
    go_wp2_with fail
    rw [HW0.out]
    refine HD1.out.mono ?_
    rintro e w1 ⟨rfl, rfl⟩
    go_wp2_with fail
    refine HD2.out.mono ?_
    rintro e w1 ⟨rfl, rfl⟩
    go_wp2_with fail
    go_ret
    exact ⟨ret_bool HR.out.symm, HB0.out⟩
  · have HR := Lib.hid (vis_nodir (vis := vis) hd)
    rw [decide_eq_false hd] at hdd
    clear hd
    have y0 := x0; have y3 := x3
    rw [← hW0] at x0 x3
    have HW0 := Lib.hid hW0
    clear hW0
    go_wp2_with fail
    rw [HW0.out]
    refine HD1.out.mono ?_
    rintro e w1 ⟨rfl, rfl⟩
    go_wp2_with fail
    refine HD2.out.mono ?_
    rintro e w1 ⟨rfl, rfl⟩
    go_wp2_with fail
    go_loopw [16] (fun i wr => ∃ k : Nat, k ≤ vn ∧ i = .int .i64 k ∧ Hid (∀ y ∈ vis.take k, visP fr y = false) ∧ wr = W0) (fun i _ => vn - (intOf i).toNat)
    case atStart => exact ⟨0, Nat.zero_le _, rfl, fun y hy => by simp at hy, rfl⟩
    case round =>
      obtain ⟨k, hk, rfl, hN, rfl⟩ := hrel
      by_cases hlt : k < vn
      · obtain ⟨b, off, v, rfl, hb, hv, z0⟩ := HV.out.str_at hlt
        have hkz : (k : Int) < (vn : Int) := by omega
        have hvs : v.size ≤ maxLen := HVS.out v (List.mem_of_getElem? hv)
        have HVM := Lib.hid (List.mem_of_getElem? hv)
        have HVK := Lib.hid hv
        have HSU := Lib.hid (Tryz.strings_HasSuffix v ⟨#[47]⟩ wr (by unfold maxLen at hvs; exact hvs))
        have HPR := Lib.hid (Tryz.strings_HasPrefix fr v wr)
        clear hv
        have h1 : (v.toList == [42]) = decide (v = starW) := str_lit v _
        have h2 := str_dec v fr
        have HT : ∀ r, visP fr v = r → Hid (visP fr v = r) := fun r h => h
        have HYes : Hid (visP fr v = true → visT lab vis fr = true) := fun h => by rw [HR.out, List.any_eq_true]; exact ⟨v, HVM.out, h⟩
        have HNo : Hid (visP fr v = false → ∀ y ∈ vis.take (k + 1), visP fr y = false) := any_step hN.out HVK.out
        by_cases e1 : v = starW
        · have hp := HT true (by unfold visP; rw [decide_eq_true e1]; rfl)
          rw [decide_eq_true e1] at h1
          have h1' : (v.toList == [42]) = true := h1
          clear h1 e1 HT
          go_wp2_with fail
          go_ret
          exact ⟨ret_bool (HYes.out hp.out).symm, HB0.out⟩
        · rw [decide_eq_false e1] at h1
          have h1' : (v.toList == [42]) = false := h1
          by_cases e2 : v = fr
          · have hp := HT true (by unfold visP; rw [decide_eq_true e2]; simp)
            rw [decide_eq_true e2] at h2
            clear h1 e1 e2 HT
            go_wp2_with fail
            go_ret
            exact ⟨ret_bool (HYes.out hp.out).symm, HB0.out⟩
          · rw [decide_eq_false e2] at h2
            have hp : visP fr v = (Lib.hasSuffix (bl v) [47] && Lib.hasPrefix (bl fr) (bl v)) := by unfold visP; rw [decide_eq_false e1, decide_eq_false e2]; simp
            cases hs : Lib.hasSuffix (bl v) [47] with
            | false =>
              have hs' : Lib.hasSuffix v.data.toList [47] = false := hs
              have hp2 := HT false (by rw [hp, hs]; rfl)
              have HSU2 : Hid (Calls Tryz.prog 58 #[.string v, .string ⟨#[47]⟩] wr fun e w' => e = .returned (.bool false) ∧ w' = wr) := by
                have := HSU.out; rw [show (⟨#[47]⟩ : ByteArray).data.toList = [47] from rfl, hs'] at this; exact this
              clear h1 e1 e2 HT hs hs' HSU hp
              go_wp2_with (go_at_call 58; refine HSU2.out.mono ?_; rintro e w1 ⟨rfl, rfl⟩)
              go_roundw
              case rel => exact ⟨k + 1, hlt, by go_num, HNo.out hp2.out, trivial⟩
              case measure => simp [intOf]; omega
            | true =>
              have hs' : Lib.hasSuffix v.data.toList [47] = true := hs
              have HSU2 : Hid (Calls Tryz.prog 58 #[.string v, .string ⟨#[47]⟩] wr fun e w' => e = .returned (.bool true) ∧ w' = wr) := by
                have := HSU.out; rw [show (⟨#[47]⟩ : ByteArray).data.toList = [47] from rfl, hs'] at this; exact this
              cases hq : Lib.hasPrefix (bl fr) (bl v) with
              | false =>
                have hp2 := HT false (by rw [hp, hs, hq]; rfl)
                have HPR2 : Hid (Calls Tryz.prog 59 #[.string fr, .string v] wr fun e w' => e = .returned (.bool false) ∧ w' = wr) := by
                  have := HPR.out; rw [show Lib.hasPrefix fr.data.toList v.data.toList = false from hq] at this; exact this
                clear h1 e1 e2 HT hs hs' HSU hp HPR hq
                go_wp2_with (first
                  | (go_at_call 58; refine HSU2.out.mono ?_; rintro e w1 ⟨rfl, rfl⟩)
                  | (go_at_call 59; refine HPR2.out.mono ?_; rintro e w1 ⟨rfl, rfl⟩))
                go_roundw
                case rel => exact ⟨k + 1, hlt, by go_num, HNo.out hp2.out, trivial⟩
                case measure => simp [intOf]; omega
              | true =>
                have hp2 := HT true (by rw [hp, hs, hq]; rfl)
                have HPR2 : Hid (Calls Tryz.prog 59 #[.string fr, .string v] wr fun e w' => e = .returned (.bool true) ∧ w' = wr) := by
                  have := HPR.out; rw [show Lib.hasPrefix fr.data.toList v.data.toList = true from hq] at this; exact this
                clear h1 e1 e2 HT hs hs' HSU hp HPR hq
                go_wp2_with (first
                  | (go_at_call 58; refine HSU2.out.mono ?_; rintro e w1 ⟨rfl, rfl⟩)
                  | (go_at_call 59; refine HPR2.out.mono ?_; rintro e w1 ⟨rfl, rfl⟩))
                go_ret
                exact ⟨ret_bool (HYes.out hp2.out).symm, HB0.out⟩
      · have hkz : ¬ (k : Int) < (vn : Int) := by omega
        have HF : Hid (visT lab vis fr = false) := by
          show _ = _
          rw [HR.out, List.any_eq_false]
          intro y hy
          have := hN.out y (by rw [List.take_of_length_le (by omega)]; exact hy)
          rw [this]; simp
        go_wp2_with fail
        go_ret
        exact ⟨ret_bool HF.out.symm, HB0.out⟩
end Go.Proofs.YtddlohbhchjjhaaGreatDoor

namespace Go.Proofs.YtddlohbhchjjhaaGreatDoor
open Go.RowKit Go.Shelf Go.Maps
attribute [local go_sem] Oper.semAt_some

def slW : ByteArray := ⟨#[47]⟩
def joiS (d n : ByteArray) : ByteArray := if d = ⟨#[]⟩ then n else d ++ slW ++ n
/-- Join's error -/
def joiE (d n : ByteArray) : Int := if (d ≠ ⟨#[]⟩ ∧ labB d = false) ∨ namT n = false then 6 else if d = ⟨#[]⟩ then 0 else if labB (d ++ slW ++ n) = false then 4 else 0
def joiV (d n : ByteArray) : ByteArray := if joiE d n = 0 then joiS d n else ⟨#[]⟩
def JoiEnd (d n : ByteArray) (w : World) (e : Ending) (w' : World) : Prop := e = .returned (.tuple #[.string (joiV d n), .int .i64 (joiE d n)]) ∧ Below w.heap.size w w'
theorem joiV_no {d n : ByteArray} {v : Int} (h : joiE d n = v) (hv : v ≠ 0) : joiV d n = ⟨#[]⟩ := if_neg (by rw [h]; exact hv)
theorem JoiEnd.no {d n : ByteArray} {w w' : World} {v : Int} (h : joiE d n = v) (hv : v ≠ 0) (hb : Below w.heap.size w w') : JoiEnd d n w (.returned (.tuple #[.string ⟨#[]⟩, .int .i64 v])) w' := ⟨by rw [joiV_no h hv, h], hb⟩
theorem JoiEnd.yes {d n s : ByteArray} {w w' : World} (h : joiE d n = 0) (hs : joiS d n = s) (hb : Below w.heap.size w w') : JoiEnd d n w (.returned (.tuple #[.string s, .int .i64 0])) w' := ⟨by rw [joiV, if_pos h, h, hs], hb⟩
set_option maxHeartbeats 1000000 in
theorem join_any (d n : ByteArray) (w : World) (hd : d.size ≤ 1000000) (hn : n.size ≤ 1000000) : Calls Tryz.prog 95 #[.string d, .string n] w (JoiEnd d n w) := by
  have hdm : d.size ≤ maxLen := by unfold maxLen; omega
  have hnm : n.size ≤ maxLen := by unfold maxLen; omega
  have h1 : (d.toList == []) = decide (d = ⟨#[]⟩) := str_lit d _
  go_enter Tryz.func95, Tryz.ntmps95
  by_cases e1 : d = ⟨#[]⟩
  · rw [decide_eq_true e1] at h1
    cases hnt : namT n with
    | false =>
      have HE : Hid (joiE d n = 6) := if_pos (.inr hnt)
      have HT := Lib.hid hnt
      clear hnt e1
      go_wp2_with (go_at_call 142; refine (targetName_any _ _ hnm).mono ?_; rintro e w1 ⟨rfl, hb⟩; rw [HT.out])
      go_ret2
      exact JoiEnd.no HE.out (by decide) hb
    | true =>
      have HE : Hid (joiE d n = 0) := by show _ = _; unfold joiE; rw [if_neg (by rw [hnt]; simp [e1]), if_pos e1]
      have HS : Hid (joiS d n = n) := if_pos e1
      have HT := Lib.hid hnt
      clear hnt e1
      go_wp2_with (go_at_call 142; refine (targetName_any _ _ hnm).mono ?_; rintro e w1 ⟨rfl, hb⟩; rw [HT.out])
      go_ret2
      exact JoiEnd.yes HE.out HS.out hb
  · rw [decide_eq_false e1] at h1
    cases hl : labB d with
    | false =>
      have HE : Hid (joiE d n = 6) := if_pos (.inl ⟨e1, hl⟩)
      have HL := Lib.hid hl
      clear hl e1
      go_wp2_with (go_at_call 79; refine (label_any _ _ hdm).mono ?_; rintro e w1 ⟨rfl, hb⟩; rw [HL.out])
      go_ret2
      exact JoiEnd.no HE.out (by decide) hb
    | true =>
      have HL := Lib.hid hl
      cases hnt : namT n with
      | false =>
        have HE : Hid (joiE d n = 6) := if_pos (.inr hnt)
        have HT := Lib.hid hnt
        clear hnt e1 hl
        go_wp2_with (first
          | (go_at_call 79; refine (label_any _ _ hdm).mono ?_; rintro e w1 ⟨rfl, hb⟩; rw [HL.out])
          | (go_at_call 142; refine (targetName_any _ _ hnm).mono ?_; rintro e w2 ⟨rfl, hb2⟩; rw [HT.out]))
        go_ret2
        exact JoiEnd.no HE.out (by decide) (hb.trans (hb2.mono hb.size))
      | true =>
        have HT := Lib.hid hnt
        have HE0 : Hid (joiE d n = if labB (d ++ slW ++ n) = false then 4 else 0) := by show _ = _; unfold joiE; rw [if_neg (by rw [hnt, hl]; simp), if_neg e1]
        have HS : Hid (joiS d n = d ++ slW ++ n) := if_neg e1
        have hcat : ¬ (9223372036854775807 < d.size + (⟨#[47]⟩ : ByteArray).size) := by
          have : (⟨#[47]⟩ : ByteArray).size = 1 := rfl
          omega
        have hsz : (d ++ (⟨#[47]⟩ : ByteArray)).size = d.size + 1 := by rw [ByteArray.size_append]; rfl
        have hcat2 : ¬ (9223372036854775807 < (d ++ (⟨#[47]⟩ : ByteArray)).size + n.size) := by omega
        have hsz2 : (d ++ (⟨#[47]⟩ : ByteArray) ++ n).size ≤ maxLen := by rw [ByteArray.size_append, hsz]; unfold maxLen; omega
        obtain ⟨full, hfull⟩ : ∃ full, d ++ (⟨#[47]⟩ : ByteArray) ++ n = full := ⟨_, rfl⟩
        have HFU := Lib.hid hfull
        have HFU2 : Hid (d ++ slW ++ n = full) := hfull
        rw [HFU2.out] at HE0 HS
        rw [hfull] at hsz2
        clear hnt e1 hl hsz hfull
        cases hlf : labB full with
        | false =>
          have HE : Hid (joiE d n = 4) := by show _ = _; rw [HE0.out, if_pos hlf]
          have HLF := Lib.hid hlf
          clear hlf HE0
          go_wp2_with (first
            | (go_at_call 142; refine (targetName_any _ _ hnm).mono ?_; rintro e w2 ⟨rfl, hb2⟩; rw [HT.out]; refine halt_ ?_)
            | (go_at_call 79; refine (label_any _ _ hdm).mono ?_; rintro e w1 ⟨rfl, hb⟩; rw [HL.out]))
          refine unhalt ?_
          go_wp2_with (go_at_call 79; rw [HFU.out]; refine (label_any _ _ hsz2).mono ?_; rintro e w3 ⟨rfl, hb3⟩; rw [HLF.out])
          go_ret2
          exact JoiEnd.no HE.out (by decide) (hb.trans ((hb2.mono hb.size).trans (hb3.mono (Nat.le_trans hb.size hb2.size))))
        | true =>
          have HE : Hid (joiE d n = 0) := by show _ = _; rw [HE0.out, if_neg (by rw [hlf]; decide)]
          have HLF := Lib.hid hlf
          clear hlf HE0
          go_wp2_with (first
            | (go_at_call 142; refine (targetName_any _ _ hnm).mono ?_; rintro e w2 ⟨rfl, hb2⟩; rw [HT.out]; refine halt_ ?_)
            | (go_at_call 79; refine (label_any _ _ hdm).mono ?_; rintro e w1 ⟨rfl, hb⟩; rw [HL.out]))
          refine unhalt ?_
          go_wp2_with (go_at_call 79; rw [HFU.out]; refine (label_any _ _ hsz2).mono ?_; rintro e w3 ⟨rfl, hb3⟩; rw [HLF.out])
          go_ret2
          exact JoiEnd.yes HE.out (by rw [HS.out, ← HFU.out]) (hb.trans ((hb2.mono hb.size).trans (hb3.mono (Nat.le_trans hb.size hb2.size))))
theorem labB_size {s : ByteArray} (h : labB s = true) : s.size ≤ 90 := by
  unfold labB labL at h
  rw [Bool.and_eq_true, decide_eq_true_eq] at h
  rw [size_len]; exact h.1
theorem freB_size {s : ByteArray} (h : freB s = true) : s.size ≤ 90 := by
  unfold freB namT at h
  rw [Bool.and_eq_true, Bool.and_eq_true] at h
  exact labB_size h.1.1
theorem ruleE_ok {r : Tg} (h : ruleE r = 0) : freB r.lab = true ∧ r.deps.length ≤ 20 ∧ r.vis.length ≤ 20 ∧ (r.kind = 1 ∨ r.kind = 2) ∧ elE frlB [] r.deps = 0 ∧ elE viewB [] r.vis = 0 := by
  unfold ruleE at h
  split at h
  · cases h
  rename_i h1
  split at h
  · cases h
  rename_i h2
  split at h
  · cases h
  rename_i h3
  split at h
  · rename_i h4; exact absurd h h4
  rename_i h4
  refine ⟨by simpa using h2, by omega, by omega, ?_, Classical.byContradiction h4, h⟩
  by_cases e : r.kind = 1
  · exact .inl e
  · exact .inr (Classical.byContradiction fun e2 => h1 ⟨e, e2⟩)
theorem chkE_ok : ∀ {seen : List ByteArray} {rs : List Tg}, chkE seen rs = 0 → ∀ r ∈ rs, ruleE r = 0
  | _, [], _, r, hr => by cases hr
  | seen, q :: rs, h, r, hr => by
    simp only [chkE] at h
    split at h
    · rename_i h1; exact absurd h h1
    rename_i h1
    split at h
    · cases h
    rcases List.mem_cons.1 hr with rfl | hr
    · exact Classical.byContradiction h1
    · exact chkE_ok h r hr
theorem checkE_ok {rs : List Tg} (h : checkE rs = 0) : rs.length ≤ 100 ∧ ∀ r ∈ rs, ruleE r = 0 := by
  unfold checkE at h
  split at h
  · cases h
  · exact ⟨by omega, chkE_ok h⟩

/-- the first error of the labels -/
def lfE (d : ByteArray) : List Ct → Int
  | [] => 0
  | c :: cs => if joiE d c.2.1 ≠ 0 then joiE d c.2.1 else lfE d cs
def jnT (d : ByteArray) (r : Tg) : Tg := { r with lab := joiS d r.lab }
def jnC (d : ByteArray) (c : Ct) : Ct := (c.1, joiS d c.2.1, c.2.2)
theorem ct_jn (d : ByteArray) (rs : List Tg) : (rs.map (jnT d)).map ct = (rs.map ct).map (jnC d) := by simp [List.map_map, Function.comp_def, ct, jnT, jnC]
theorem lfE_at {d : ByteArray} : ∀ {rs : List Tg} {k : Nat} {r : Tg}, (∀ q ∈ rs.take k, joiE d q.lab = 0) → rs[k]? = some r → joiE d r.lab ≠ 0 → lfE d (rs.map ct) = joiE d r.lab
  | [], _, _, _, h, _ => by simp at h
  | q :: rs, 0, r, _, h, hr => by
    simp at h; subst h
    simp only [List.map_cons, lfE]; exact if_pos hr
  | q :: rs, k + 1, r, h0, h, hr => by
    simp only [List.map_cons, lfE]
    rw [if_neg (fun hn => hn (h0 q (by simp)))]
    exact lfE_at (k := k) (fun x hx => h0 x (by simp [hx])) (by simpa using h) hr
theorem lfE_all {d : ByteArray} : ∀ {rs : List Tg}, (∀ q ∈ rs, joiE d q.lab = 0) → lfE d (rs.map ct) = 0
  | [], _ => rfl
  | q :: rs, h => by
    simp only [List.map_cons, lfE]
    rw [if_neg (fun hn => hn (h q (by simp)))]
    exact lfE_all (fun x hx => h x (by simp [hx]))
/-- what loadFile answers -/
def LfR (f : Fl) (cs : List Ct) (err : Int) : Prop :=
  ((dirS f.1 ≠ ⟨#[]⟩ ∧ labB (dirS f.1) = false) ∧ cs = [] ∧ err = 6) ∨
  (¬ (dirS f.1 ≠ ⟨#[]⟩ ∧ labB (dirS f.1) = false) ∧ ∃ ds at_ e1, ParR f.2 ds at_ e1 ∧ ((e1 ≠ 0 ∧ cs = [] ∧ err = e1) ∨ (e1 = 0 ∧ lfE (dirS f.1) ds ≠ 0 ∧ cs = [] ∧ err = lfE (dirS f.1) ds) ∨ (e1 = 0 ∧ lfE (dirS f.1) ds = 0 ∧ cs = ds.map (jnC (dirS f.1)) ∧ err = 0)))
theorem LfR.same {f : Fl} {cs ds : List Ct} {a b : Int} (h : LfR f cs a) (g : LfR f ds b) : cs = ds ∧ a = b := by
  rcases h with ⟨h0, rfl, rfl⟩ | ⟨h0, us, x, y, hp, h⟩
  · rcases g with ⟨_, rfl, rfl⟩ | ⟨g0, _⟩
    · exact ⟨rfl, rfl⟩
    · exact absurd h0 g0
  · rcases g with ⟨g0, _⟩ | ⟨_, vs, x', y', gp, g⟩
    · exact absurd g0 h0
    obtain ⟨rfl, rfl, rfl⟩ := hp.same gp
    rcases h with ⟨h1, rfl, rfl⟩ | ⟨h1, h2, rfl, rfl⟩ | ⟨h1, h2, rfl, rfl⟩
    · rcases g with ⟨g1, rfl, rfl⟩ | ⟨g1, _⟩ | ⟨g1, _⟩
      · exact ⟨rfl, rfl⟩
      · exact absurd g1 h1
      · exact absurd g1 h1
    · rcases g with ⟨g1, _⟩ | ⟨g1, g2, rfl, rfl⟩ | ⟨g1, g2, _⟩
      · exact absurd h1 g1
      · exact ⟨rfl, rfl⟩
      · exact absurd g2 h2
    · rcases g with ⟨g1, _⟩ | ⟨g1, g2, _⟩ | ⟨g1, g2, rfl, rfl⟩
      · exact absurd h1 g1
      · exact absurd h2 g2
      · exact ⟨rfl, rfl⟩
theorem parR_rules {s : ByteArray} {rs : List Tg} {a : Int} (h : ParR s (rs.map ct) a 0) : rs.length ≤ 100 ∧ ∀ r ∈ rs, ruleE r = 0 := by
  rcases h with ⟨_, _, _, h⟩ | ⟨_, ws, _, ⟨_, _, _, h⟩ | ⟨x, xs, _, _, _, h⟩ | ⟨ds, _, ⟨h1, _, _, h⟩ | ⟨h1, h2, _⟩⟩⟩
  · cases h
  · cases h
  · cases h
  · exact absurd h.symm h1
  · rw [← h2, checkC_ct] at h1
    exact checkE_ok h1
def LfEnd (f : Fl) (w : World) (e : Ending) (w' : World) : Prop :=
  ∃ A n c rs err, e = .returned (.tuple #[.slice A n c, .int .i64 err]) ∧ Sl w' w'.heap.size 4 A n (flat tgC rs) ∧ (∀ t ∈ rs, TgX w' 0 t) ∧ n ≤ c ∧ c ≤ maxLen ∧ LfR f (rs.map ct) err ∧ Below w.heap.size w w'
theorem LfEnd.none_ {f : Fl} {w w' : World} {err : Int} (h : LfR f [] err) (hb : Below w.heap.size w w') : LfEnd f w (.returned (.tuple #[.slice none 0 0, .int .i64 err])) w' :=
  ⟨none, 0, 0, [], err, rfl, Sl.nil _ _ _ _, (fun t h => by cases h), Nat.le_refl _, Nat.zero_le _, h, hb⟩
theorem below_of_grown {w w' : World} {B : Nat} {row : Option Nat} (hg : w.grownBy w' row) (hr : ∀ k, row = some k → B ≤ k) (hB : B ≤ w.heap.size) : Below B w w' :=
  ((Below.refl B w)).grown hg hB hr
theorem infoTgt : (Tryz.prog.info? 35).map (fun i => (i.zero, i.size, i.bytes)) = some (some (.agg #[.string ⟨#[]⟩, .int .i64 0, .slice none 0 0, .slice none 0 0]), 4, 72) := by kernel_rfl
set_option maxRecDepth 100000 in
set_option maxHeartbeats 4000000 in
theorem loadFile_any (f : Fl) (w : World) (h1 : f.1.size ≤ 1000000) (h2 : f.2.size ≤ 1000000) : Calls Tryz.prog 49 #[.agg #[.string f.1, .string f.2]] w (LfEnd f w) := by
  obtain ⟨path, data⟩ := f
  simp only at h1 h2
  have hdm : (dirS path).size ≤ 1000000 := Nat.le_trans (dir_size path) h1
  obtain ⟨w0, hw0⟩ : ∃ w0, w.alloc (.cells #[.string path, .string data] 42) = w0 := ⟨_, rfl⟩
  have HB0 : Hid (Below w.heap.size w w0) := by show Below _ _ _; rw [← hw0]; exact (Below.refl _ w).alloc (Nat.le_refl _) _
  have hK0 : Bk w0 w.heap.size 42 #[.string path, .string data] := by rw [← hw0]; exact Bk.new w _ _
  have HK0 := Lib.hid hK0
  have y0 := hK0.cell 0; have y1 := hK0.cell 1
  simp only [List.getElem?_toArray, List.getElem?_cons_zero, List.getElem?_cons_succ] at y0 y1
  have HW0 := Lib.hid hw0
  clear hw0 hK0
  go_enter Tryz.func49, Tryz.ntmps49
  obtain ⟨d, hd⟩ : ∃ d, dirS path = d := ⟨_, rfl⟩
  have HD := Lib.hid hd
  have HDR := Lib.hid (directory_any path w0 h1)
  rw [hd] at HDR hdm
  have hdm2 : d.size ≤ maxLen := by unfold maxLen; omega
  clear hd
  have h1 : (d.toList == []) = decide (d = ⟨#[]⟩) := str_lit d _
  have HPA := Lib.hid (parse_any data)
  go_wp2_with (go_at_call 48; rw [HW0.out]; refine HDR.out.mono ?_; rintro e w1 ⟨rfl, rfl⟩; refine halt_ ?_)
  refine unhalt ?_
  have hdat : data.size ≤ maxLen := by unfold maxLen; omega
  have HLR : Hid (¬ (d ≠ ⟨#[]⟩ ∧ labB d = false) → ∀ cs err, (∃ ds at_ e1, ParR data ds at_ e1 ∧ ((e1 ≠ 0 ∧ cs = [] ∧ err = e1) ∨ (e1 = 0 ∧ lfE d ds ≠ 0 ∧ cs = [] ∧ err = lfE d ds) ∨ (e1 = 0 ∧ lfE d ds = 0 ∧ cs = ds.map (jnC d) ∧ err = 0))) → LfR (path, data) cs err) := fun h0 cs err h => .inr ⟨by rw [HD.out]; exact h0, by rw [HD.out]; exact h⟩
  have HL6 : Hid ((d ≠ ⟨#[]⟩ ∧ labB d = false) → LfR (path, data) [] 6) := fun h => .inl ⟨by rw [HD.out]; exact h, rfl, rfl⟩
  obtain ⟨i0, hi, hz0, hz1', hz2'⟩ := info_parts infoTgt
  have Hi := Lib.hid hi; have Hz0 := Lib.hid hz0; have Hz1 := Lib.hid hz1'; have Hz2 := Lib.hid hz2'
  clear hi hz0 hz1' hz2'
  have hz00 : w.heap.size < w0.heap.size := HK0.out.lt
  rcases (show d = ⟨#[]⟩ ∨ (d ≠ ⟨#[]⟩ ∧ labB d = true) ∨ (d ≠ ⟨#[]⟩ ∧ labB d = false) by
    by_cases e : d = ⟨#[]⟩
    · exact .inl e
    · cases hl : labB d with
      | true => exact .inr (.inl ⟨e, rfl⟩)
      | false => exact .inr (.inr ⟨e, rfl⟩)) with e1 | ⟨e1, hl⟩ | ⟨e1, hl⟩
  rotate_left 2
  · have HF := HL6.out ⟨e1, hl⟩
    rw [decide_eq_false e1] at h1
    have HL := Lib.hid hl; have HFF := Lib.hid HF
    clear hl e1 HF
    go_wp2_with (go_at_call 79; refine (label_any _ _ hdm2).mono ?_; rintro e w1 ⟨rfl, hb⟩; rw [HL.out])
    go_ret2
    exact LfEnd.none_ HFF.out (HB0.out.trans (hb.mono HB0.out.size))
  · rw [decide_eq_true e1] at h1
    have HLC := Lib.hid (HLR.out (fun h => h.1 e1))
    clear e1 HLR HL6
    go_wp2_with (go_at_call 94; refine (HPA.out _ hdat).mono ?_; rintro e w2 ⟨A, n, c, at_, err, rs, rfl, hsl, hok, hnc, hcm, hpr, hb2⟩; refine halt_ ?_)
    have HB2 : Hid (Below w.heap.size w w2) := HB0.out.trans (hb2.mono HB0.out.size)
    clear hb2
    refine unhalt ?_
    have HLN := Lib.hid (hsl.len rlC_len (by omega))
    have HSL := Lib.hid hsl; have HOK := Lib.hid hok; have HPR := Lib.hid hpr
    clear hsl hok hpr
    by_cases he : err = 0
    · subst he
      have hru := parR_rules HPR.out
      have hn100 : n ≤ 100 := by rw [← HLN.out]; exact hru.1
      have HRU := Lib.hid hru.2
      have hz02 := HB2.out.size
      clear hru
      go_wp2
      go_loopw [8, 35] (fun q i wr => ∃ (k : Nat) (Al : Option Addr) (cl : Nat), q = .slice Al k cl ∧ i = .int .i64 (k : Int) ∧ k ≤ n ∧ Hid (wr.ownsRow w2.heap.size 35 4 (.slice Al k cl) k (flat tgC ((rs.take k).map (jnT d)))) ∧ Hid (∀ r ∈ rs.take k, joiE d r.lab = 0) ∧ Hid (Below w2.heap.size w2 wr)) (fun _ i _ => n - (intOf i).toNat)
      case atStart => exact ⟨0, none, 0, rfl, rfl, Nat.zero_le _, World.ownsRow_nil _ _ _ _, (fun r h => by simp at h), Below.refl _ _⟩
      case round =>
        obtain ⟨k, Al, cl, rfl, rfl, hk, hO, hZ, hBw⟩ := hrel
        have hzr := hBw.out.size
        by_cases hlt : k < n
        · obtain ⟨bb, off, r, rfl, hbB, hr, z0, z1, z2, z3⟩ := (HSL.out.below hBw.out (Nat.le_refl _)).rl hlt
          have hlz : (k : Int) < (n : Int) := by omega
          have hrs : r.lab.size ≤ 1000000 := by have := freB_size (ruleE_ok (HRU.out r (List.mem_of_getElem? hr))).1; omega
          have HR := Lib.hid hr
          obtain ⟨wb, hwb⟩ : ∃ wb, wr.alloc (.cells #[.int .i64 r.kind, .string r.lab, .slice r.dA r.dn r.dc, .slice r.vA r.vn r.vc] 60) = wb := ⟨_, rfl⟩
          have hKb : Bk wb wr.heap.size 60 #[.int .i64 r.kind, .string r.lab, .slice r.dA r.dn r.dc, .slice r.vA r.vn r.vc] := by rw [← hwb]; exact Bk.new wr _ _
          have HBb : Hid (Below wr.heap.size wr wb) := by show Below _ _ _; rw [← hwb]; exact (Below.refl _ wr).alloc (Nat.le_refl _) _
          have hzb : wr.heap.size < wb.heap.size := hKb.lt
          have b1 := hKb.cell 1
          simp only [List.getElem?_toArray, List.getElem?_cons_zero, List.getElem?_cons_succ] at b1
          have HJ := Lib.hid (join_any d r.lab wb hdm hrs)
          have HKb := Lib.hid hKb; have HWb := Lib.hid hwb
          clear hwb hKb hr
          by_cases hj : joiE d r.lab = 0
          · have HJE := Lib.hid hj
            have HZ2 : Hid (∀ q ∈ rs.take (k + 1), joiE d q.lab = 0) := fun q hq => by
              rw [take_snoc HR.out] at hq
              rcases List.mem_append.1 hq with hq | hq
              · exact hZ.out q hq
              · rw [List.mem_singleton.1 hq]; exact HJE.out
            have HJV : Hid (joiV d r.lab = joiS d r.lab) := if_pos hj
            clear hj
            go_wp2_with (go_at_call 95; rw [HWb.out]; refine HJ.out.mono ?_; rintro e w5 ⟨rfl, hb5⟩; rw [HJE.out, HJV.out]; refine halt_ ?_)
            refine unhalt ?_
            have hK5 := HKb.out.below hb5 hzb
            have b0 := hK5.cell 0; have b2 := hK5.cell 2; have b3 := hK5.cell 3
            simp only [List.getElem?_toArray, List.getElem?_cons_zero, List.getElem?_cons_succ] at b0 b2 b3
            have HB5 : Hid (Below wr.heap.size wr w5) := HBb.out.trans (hb5.mono (by omega))
            have HO5 : Hid (w5.ownsRow w2.heap.size 35 4 (.slice Al k cl) k (flat tgC ((rs.take k).map (jnT d)))) := own_keep hO.out (fun j hj => by
              obtain ⟨h1, cur, h2⟩ := own_row hO.out hj
              exact HB5.out.block j (Array.getElem?_eq_some_iff.1 h2).1)
            have hz5 := HB5.out.size
            clear hK5 hb5 HJ b1 z0 z1 z2 z3
            go_wp2_with (at_builtin; refine halt_apx (.tmp 49) (.tmp 58) 25 rfl ?_)
            refine unhalt ?_
            refine wpList_append_sl (base := w2.heap.size) (size := 4) _ rfl (.tmp 49) (.tmp 58) 25 rfl 35 i0 _ 72 Tryz.underlying25 Hi.out Hz0.out Hz1.out Hz2.out rfl (by decide) (.slice Al k cl) k (flat tgC ((rs.take k).map (jnT d))) rfl ?own_1 (w5.heap.size + 1) _ 1 _ (tgC (jnT d r)) rfl ?nw_1 (by simp [tgC, Value.oneCell']) ?m1_1 ?m2_1 ?m3_1 ?_
            case own_1 => exact HO5.out.kept (World.grownBy_alloc w5 _ none) (by cases hv : (Value.slice Al k cl).ownBlock with | none => exact .inl rfl | some k => exact .inr (by simp))
            case nw_1 => exact ⟨rfl, fun _ => ⟨w5.heap.size, 0, rfl, Nat.lt_succ_self _, fun j u hu => by have := new_cells w5 35 (tgC (jnT d r)) j u hu; rwa [Addr.add_lit] at this⟩⟩
            case m1_1 => unfold maxLen; omega
            case m2_1 => omega
            case m3_1 => simp; omega
            intro A6 q6 w6 ho6 hg6 hc61 hc62
            have HO6 : Hid (w6.ownsRow w2.heap.size 35 4 (.slice A6 (k + 1) q6) (k + 1) (flat tgC ((rs.take (k + 1)).map (jnT d)))) := by
              show World.ownsRow _ _ _ _ _ _ _
              rw [take_snoc HR.out, List.map_append, flat_append]; simpa [flat] using ho6
            have HB6 : Hid (Below w2.heap.size w2 w6) := hBw.out.trans (((HB5.out.alloc (by omega) _).mono (by omega)).trans (below_of_grown hg6 (fun j hj => (own_row HO5.out hj).1) (by simp; omega)))
            clear ho6 hg6
            go_wp2_with fail
            go_roundw
            case rel => exact ⟨k + 1, A6, q6, rfl, by go_num, hlt, HO6.out, HZ2.out, HB6.out⟩
            case measure => simp [intOf]; omega
          · have HLF : Hid (lfE d (rs.map ct) = joiE d r.lab) := lfE_at hZ.out HR.out hj
            have HJN := Lib.hid hj
            have hj' : (joiE d r.lab != 0) = true := by simpa using hj
            obtain ⟨v, hve⟩ : ∃ v, joiE d r.lab = v := ⟨_, rfl⟩
            rw [hve] at HLF HJN hj'
            have HFF := Lib.hid (HLC.out [] v ⟨_, _, _, HPR.out, .inr (.inl ⟨rfl, by rw [HLF.out]; exact HJN.out, rfl, HLF.out.symm⟩)⟩)
            have HVE := Lib.hid hve
            clear hj hve
            go_wp2_with (go_at_call 95; rw [HWb.out]; refine HJ.out.mono ?_; rintro e w5 ⟨rfl, hb5⟩; rw [HVE.out])
            go_ret2
            exact LfEnd.none_ HFF.out (HB2.out.trans ((hBw.out.trans ((HBb.out.trans (hb5.mono (by omega))).mono hzr)).mono hz02))
        · have hlz : ¬ (k : Int) < (n : Int) := by omega
          obtain rfl : k = n := by omega
          have HT : Hid (rs.take k = rs) := List.take_of_length_le (by rw [HLN.out]; exact Nat.le_refl _)
          go_wp2_with fail
          go_ret2
          have hO2 := hO.out
          have hZ2 := hZ.out
          rw [HT.out] at hO2 hZ2
          obtain ⟨_, _, hform, hl1, hl2⟩ := ownsRow_form hO2
          injection hform with _ _ hcc
          subst hcc
          refine ⟨Al, k, cl, rs.map (jnT d), 0, rfl, Sl.of_own hO2, fun t ht => ?_, hl1, hl2, HLC.out _ _ ⟨_, _, _, HPR.out, .inr (.inr ⟨rfl, lfE_all hZ2, ct_jn d rs, rfl⟩)⟩, HB2.out.trans (hBw.out.mono hz02)⟩
          obtain ⟨r, hr, rfl⟩ := List.mem_map.1 ht
          have ho := (HOK.out r hr).step (BelowX.of_below hBw.out (Nat.zero_le _))
          have hrs := freB_size (ruleE_ok (HRU.out r hr)).1
          exact ⟨ho.d, ho.v, by
            show (joiS d r.lab).size ≤ maxLen
            unfold joiS
            split
            · unfold maxLen; omega
            · rw [ByteArray.size_append, ByteArray.size_append]; have : slW.size = 1 := rfl; unfold maxLen; omega, ho.ds, ho.vs⟩
    · have HFF := Lib.hid (HLC.out [] err ⟨_, _, _, HPR.out, .inl ⟨he, rfl, rfl⟩⟩)
      have he' : (err != 0) = true := by simpa using he
      clear he
      go_wp2_with fail
      go_ret2
      exact LfEnd.none_ HFF.out HB2.out
  · rw [decide_eq_false e1] at h1
    have HLC := Lib.hid (HLR.out (fun h => by rw [hl] at h; cases h.2))
    have HL := Lib.hid hl
    clear e1 HLR HL6 hl
    go_wp2_with (go_at_call 79; refine (label_any _ _ hdm2).mono ?_; rintro e w1 ⟨rfl, hb⟩; rw [HL.out]; refine halt_ ?_)
    refine unhalt ?_
    have y1 : w1.cell? ⟨w.heap.size, 1, none⟩ = some (.string data) := by have := (HK0.out.below hb hz00).cell 1; simpa using this
    have HB1 : Hid (Below w.heap.size w w1) := HB0.out.trans (hb.mono HB0.out.size)
    clear hb y0
    go_wp2_with (go_at_call 94; refine (HPA.out _ hdat).mono ?_; rintro e w2 ⟨A, n, c, at_, err, rs, rfl, hsl, hok, hnc, hcm, hpr, hb2⟩; refine halt_ ?_)
    have HB2 : Hid (Below w.heap.size w w2) := HB1.out.trans (hb2.mono HB1.out.size)
    clear hb2
    refine unhalt ?_
    have HLN := Lib.hid (hsl.len rlC_len (by omega))
    have HSL := Lib.hid hsl; have HOK := Lib.hid hok; have HPR := Lib.hid hpr
    clear hsl hok hpr
    by_cases he : err = 0
    · subst he
      have hru := parR_rules HPR.out
      have hn100 : n ≤ 100 := by rw [← HLN.out]; exact hru.1
      have HRU := Lib.hid hru.2
      have hz02 := HB2.out.size
      clear hru
      go_wp2
      go_loopw [8, 35] (fun q i wr => ∃ (k : Nat) (Al : Option Addr) (cl : Nat), q = .slice Al k cl ∧ i = .int .i64 (k : Int) ∧ k ≤ n ∧ Hid (wr.ownsRow w2.heap.size 35 4 (.slice Al k cl) k (flat tgC ((rs.take k).map (jnT d)))) ∧ Hid (∀ r ∈ rs.take k, joiE d r.lab = 0) ∧ Hid (Below w2.heap.size w2 wr)) (fun _ i _ => n - (intOf i).toNat)
      case atStart => exact ⟨0, none, 0, rfl, rfl, Nat.zero_le _, World.ownsRow_nil _ _ _ _, (fun r h => by simp at h), Below.refl _ _⟩
      case round =>
        obtain ⟨k, Al, cl, rfl, rfl, hk, hO, hZ, hBw⟩ := hrel
        have hzr := hBw.out.size
        by_cases hlt : k < n
        · obtain ⟨bb, off, r, rfl, hbB, hr, z0, z1, z2, z3⟩ := (HSL.out.below hBw.out (Nat.le_refl _)).rl hlt
          have hlz : (k : Int) < (n : Int) := by omega
          have hrs : r.lab.size ≤ 1000000 := by have := freB_size (ruleE_ok (HRU.out r (List.mem_of_getElem? hr))).1; omega
          have HR := Lib.hid hr
          obtain ⟨wb, hwb⟩ : ∃ wb, wr.alloc (.cells #[.int .i64 r.kind, .string r.lab, .slice r.dA r.dn r.dc, .slice r.vA r.vn r.vc] 60) = wb := ⟨_, rfl⟩
          have hKb : Bk wb wr.heap.size 60 #[.int .i64 r.kind, .string r.lab, .slice r.dA r.dn r.dc, .slice r.vA r.vn r.vc] := by rw [← hwb]; exact Bk.new wr _ _
          have HBb : Hid (Below wr.heap.size wr wb) := by show Below _ _ _; rw [← hwb]; exact (Below.refl _ wr).alloc (Nat.le_refl _) _
          have hzb : wr.heap.size < wb.heap.size := hKb.lt
          have b1 := hKb.cell 1
          simp only [List.getElem?_toArray, List.getElem?_cons_zero, List.getElem?_cons_succ] at b1
          have HJ := Lib.hid (join_any d r.lab wb hdm hrs)
          have HKb := Lib.hid hKb; have HWb := Lib.hid hwb
          clear hwb hKb hr
          by_cases hj : joiE d r.lab = 0
          · have HJE := Lib.hid hj
            have HZ2 : Hid (∀ q ∈ rs.take (k + 1), joiE d q.lab = 0) := fun q hq => by
              rw [take_snoc HR.out] at hq
              rcases List.mem_append.1 hq with hq | hq
              · exact hZ.out q hq
              · rw [List.mem_singleton.1 hq]; exact HJE.out
            have HJV : Hid (joiV d r.lab = joiS d r.lab) := if_pos hj
            clear hj
            go_wp2_with (go_at_call 95; rw [HWb.out]; refine HJ.out.mono ?_; rintro e w5 ⟨rfl, hb5⟩; rw [HJE.out, HJV.out]; refine halt_ ?_)
            refine unhalt ?_
            have hK5 := HKb.out.below hb5 hzb
            have b0 := hK5.cell 0; have b2 := hK5.cell 2; have b3 := hK5.cell 3
            simp only [List.getElem?_toArray, List.getElem?_cons_zero, List.getElem?_cons_succ] at b0 b2 b3
            have HB5 : Hid (Below wr.heap.size wr w5) := HBb.out.trans (hb5.mono (by omega))
            have HO5 : Hid (w5.ownsRow w2.heap.size 35 4 (.slice Al k cl) k (flat tgC ((rs.take k).map (jnT d)))) := own_keep hO.out (fun j hj => by
              obtain ⟨h1, cur, h2⟩ := own_row hO.out hj
              exact HB5.out.block j (Array.getElem?_eq_some_iff.1 h2).1)
            have hz5 := HB5.out.size
            clear hK5 hb5 HJ b1 z0 z1 z2 z3
            go_wp2_with (at_builtin; refine halt_apx (.tmp 49) (.tmp 58) 25 rfl ?_)
            refine unhalt ?_
            refine wpList_append_sl (base := w2.heap.size) (size := 4) _ rfl (.tmp 49) (.tmp 58) 25 rfl 35 i0 _ 72 Tryz.underlying25 Hi.out Hz0.out Hz1.out Hz2.out rfl (by decide) (.slice Al k cl) k (flat tgC ((rs.take k).map (jnT d))) rfl ?own_2 (w5.heap.size + 1) _ 1 _ (tgC (jnT d r)) rfl ?nw_2 (by simp [tgC, Value.oneCell']) ?m1_2 ?m2_2 ?m3_2 ?_
            case own_2 => exact HO5.out.kept (World.grownBy_alloc w5 _ none) (by cases hv : (Value.slice Al k cl).ownBlock with | none => exact .inl rfl | some k => exact .inr (by simp))
            case nw_2 => exact ⟨rfl, fun _ => ⟨w5.heap.size, 0, rfl, Nat.lt_succ_self _, fun j u hu => by have := new_cells w5 35 (tgC (jnT d r)) j u hu; rwa [Addr.add_lit] at this⟩⟩
            case m1_2 => unfold maxLen; omega
            case m2_2 => omega
            case m3_2 => simp; omega
            intro A6 q6 w6 ho6 hg6 hc61 hc62
            have HO6 : Hid (w6.ownsRow w2.heap.size 35 4 (.slice A6 (k + 1) q6) (k + 1) (flat tgC ((rs.take (k + 1)).map (jnT d)))) := by
              show World.ownsRow _ _ _ _ _ _ _
              rw [take_snoc HR.out, List.map_append, flat_append]; simpa [flat] using ho6
            have HB6 : Hid (Below w2.heap.size w2 w6) := hBw.out.trans (((HB5.out.alloc (by omega) _).mono (by omega)).trans (below_of_grown hg6 (fun j hj => (own_row HO5.out hj).1) (by simp; omega)))
            clear ho6 hg6
            go_wp2_with fail
            go_roundw
            case rel => exact ⟨k + 1, A6, q6, rfl, by go_num, hlt, HO6.out, HZ2.out, HB6.out⟩
            case measure => simp [intOf]; omega
          · have HLF : Hid (lfE d (rs.map ct) = joiE d r.lab) := lfE_at hZ.out HR.out hj
            have HJN := Lib.hid hj
            have hj' : (joiE d r.lab != 0) = true := by simpa using hj
            obtain ⟨v, hve⟩ : ∃ v, joiE d r.lab = v := ⟨_, rfl⟩
            rw [hve] at HLF HJN hj'
            have HFF := Lib.hid (HLC.out [] v ⟨_, _, _, HPR.out, .inr (.inl ⟨rfl, by rw [HLF.out]; exact HJN.out, rfl, HLF.out.symm⟩)⟩)
            have HVE := Lib.hid hve
            clear hj hve
            go_wp2_with (go_at_call 95; rw [HWb.out]; refine HJ.out.mono ?_; rintro e w5 ⟨rfl, hb5⟩; rw [HVE.out])
            go_ret2
            exact LfEnd.none_ HFF.out (HB2.out.trans ((hBw.out.trans ((HBb.out.trans (hb5.mono (by omega))).mono hzr)).mono hz02))
        · have hlz : ¬ (k : Int) < (n : Int) := by omega
          obtain rfl : k = n := by omega
          have HT : Hid (rs.take k = rs) := List.take_of_length_le (by rw [HLN.out]; exact Nat.le_refl _)
          go_wp2_with fail
          go_ret2
          have hO2 := hO.out
          have hZ2 := hZ.out
          rw [HT.out] at hO2 hZ2
          obtain ⟨_, _, hform, hl1, hl2⟩ := ownsRow_form hO2
          injection hform with _ _ hcc
          subst hcc
          refine ⟨Al, k, cl, rs.map (jnT d), 0, rfl, Sl.of_own hO2, fun t ht => ?_, hl1, hl2, HLC.out _ _ ⟨_, _, _, HPR.out, .inr (.inr ⟨rfl, lfE_all hZ2, ct_jn d rs, rfl⟩)⟩, HB2.out.trans (hBw.out.mono hz02)⟩
          obtain ⟨r, hr, rfl⟩ := List.mem_map.1 ht
          have ho := (HOK.out r hr).step (BelowX.of_below hBw.out (Nat.zero_le _))
          have hrs := freB_size (ruleE_ok (HRU.out r hr)).1
          exact ⟨ho.d, ho.v, by
            show (joiS d r.lab).size ≤ maxLen
            unfold joiS
            split
            · unfold maxLen; omega
            · rw [ByteArray.size_append, ByteArray.size_append]; have : slW.size = 1 := rfl; unfold maxLen; omega, ho.ds, ho.vs⟩
    · have HFF := Lib.hid (HLC.out [] err ⟨_, _, _, HPR.out, .inl ⟨he, rfl, rfl⟩⟩)
      have he' : (err != 0) = true := by simpa using he
      clear he
      go_wp2_with fail
      go_ret2
      exact LfEnd.none_ HFF.out HB2.out
end Go.Proofs.YtddlohbhchjjhaaGreatDoor

namespace Go.Proofs.YtddlohbhchjjhaaGreatDoor
open Go.RowKit Go.Shelf Go.Maps
attribute [local go_sem] Oper.semAt_some

/-- the first dependence that does not fit -/
def depE (ts : List Tg) (lab : ByteArray) : List ByteArray → Int
  | [] => 0
  | d :: ds => match findT ts d with
    | none => 8
    | some o => if o.kind = 2 then 9 else if visT o.lab o.vis lab = false then 24 else depE ts lab ds
/-- what checkTarget answers -/
def ctE (ps : List ByteArray) (ts : List Tg) (t : Tg) : Int := if memB ps (t.lab ++ pkW) = false then 8 else depE ts t.lab t.deps
theorem depE_at {ts : List Tg} {lab d : ByteArray} {ds : List ByteArray} {k : Nat} (h : ds[k]? = some d) : depE ts lab (ds.drop k) = match findT ts d with
    | none => 8
    | some o => if o.kind = 2 then 9 else if visT o.lab o.vis lab = false then 24 else depE ts lab (ds.drop (k + 1)) := by
  have hk := List.getElem?_eq_some_iff.1 h
  rw [← List.getElem_cons_drop hk.1, hk.2]; rfl
def CkEnd (v : Int) (w : World) (e : Ending) (w' : World) : Prop := e = .returned (.int .i64 v) ∧ Below w.heap.size w w'
set_option maxRecDepth 100000 in
set_option maxHeartbeats 4000000 in
theorem checkTarget_any (pb tb N M B : Nat) (ps : List ByteArray) (ts : List Tg) (t : Tg) (w : World) (hP : Rm w Tryz.prog 9 pb N (pG ps)) (hT : Rm w Tryz.prog 9 tb M (idxG ts)) (hok : TgOk w B t) (hts : ∀ o ∈ ts, TgOk w B o) (hB : B ≤ w.heap.size) (hl : t.lab.size ≤ 1000) (hls : ∀ o ∈ ts, o.lab.size ≤ 1000) :
    Calls Tryz.prog 54 #[tgV t, .map (some pb), .map (some tb)] w (CkEnd (ctE ps ts t) w) := by
  have hDL := hok.dlen
  obtain ⟨lab, kind, dA, dn, dc, deps, vA, vn, vc, vis⟩ := t
  simp only [tgV]
  simp only at hl hDL
  have hdn : dn ≤ maxLen := Nat.le_trans hok.dle hok.dmax
  have hdnm : dn ≤ 9223372036854775807 := by unfold maxLen at hdn; omega
  have HO := Lib.hid hok; have HTS := Lib.hid hts; have HLS := Lib.hid hls
  have hzz : ∀ w : World, (zeroValue 4).run Tryz.prog w = .ok (.bool false) w := fun w => Tryz.zeroValue4 w
  obtain ⟨w0, hw0⟩ : ∃ w0, w.alloc (.cells #[.string lab, .int .i64 kind, .slice dA dn dc, .slice vA vn vc] 35) = w0 := ⟨_, rfl⟩
  have HB0 : Hid (Below w.heap.size w w0) := by show Below _ _ _; rw [← hw0]; exact (Below.refl _ w).alloc (Nat.le_refl _) _
  have hK0 : Bk w0 w.heap.size 35 #[.string lab, .int .i64 kind, .slice dA dn dc, .slice vA vn vc] := by rw [← hw0]; exact Bk.new w _ _
  have hz0 : w.heap.size < w0.heap.size := hK0.lt
  have y0 := hK0.cell 0; have y2 := hK0.cell 2
  simp only [List.getElem?_toArray, List.getElem?_cons_zero, List.getElem?_cons_succ] at y0 y2
  have HK0 := Lib.hid hK0; have HW0 := Lib.hid hw0
  have HP0 := Lib.hid (hP.below HB0.out hP.lt)
  have HT0 := Lib.hid (hT.below HB0.out hT.lt)
  have htb := hT.lt
  have hsz1 : (lab ++ pkW).size ≤ maxLen := by
    rw [ByteArray.size_append]; have : pkW.size = 3 := rfl; unfold maxLen; omega
  have hlk := HP0.out.look Tryz.underlying9 Tryz.underlying66 (hzz _) hsz1
  rw [pG_get] at hlk
  have HMO := Lib.hid (modulePath_any lab w0 (by omega))
  clear hw0 hK0 hP hT hok hts hls
  cases hm : memB ps (lab ++ pkW) with
  | false =>
    have HE : Hid (ctE ps ts ⟨lab, kind, dA, dn, dc, deps, vA, vn, vc, vis⟩ = 8) := if_pos hm
    rw [hm] at hlk
    clear hm
    go_enter Tryz.func54, Tryz.ntmps54
    go_wp2_with (go_at_call 77; rw [HW0.out]; refine HMO.out.mono ?_; rintro e w' ⟨rfl, rfl⟩)
    go_ret
    exact ⟨ret_int HE.out.symm, HB0.out⟩
  | true =>
    have HE0 : Hid (ctE ps ts ⟨lab, kind, dA, dn, dc, deps, vA, vn, vc, vis⟩ = depE ts lab deps) := if_neg (by simp [hm])
    rw [hm] at hlk
    clear hm
    go_enter Tryz.func54, Tryz.ntmps54
    go_wp2_with (go_at_call 77; rw [HW0.out]; refine HMO.out.mono ?_; rintro e w' ⟨rfl, rfl⟩)
    go_loopw [20] (fun i wr => ∃ k : Nat, i = .int .i64 (k : Int) ∧ k ≤ dn ∧ Hid (depE ts lab deps = depE ts lab (deps.drop k)) ∧ Hid (Below w0.heap.size w0 wr)) (fun i _ => dn - (intOf i).toNat)
    case atStart => exact ⟨0, rfl, Nat.zero_le _, rfl, Below.refl _ _⟩
    case round =>
      obtain ⟨k, rfl, hk, hE, hBw⟩ := hrel
      have hzr := hBw.out.size
      have HBwr : Hid (Below w.heap.size w wr) := HB0.out.trans (hBw.out.mono (by omega))
      by_cases hlt : k < dn
      · obtain ⟨bb, off, d, rfl, hbB, hd, z0⟩ := (HO.out.d.below HBwr.out hB).str_at hlt
        have hlz : (k : Int) < (dn : Int) := by omega
        have hds : d.size ≤ maxLen := HO.out.ds d (List.mem_of_getElem? hd)
        have HDE := Lib.hid (depE_at (ts := ts) (lab := lab) hd)
        have hltk := (HT0.out.below hBw.out (by omega)).look_ok Tryz.underlying9 Tryz.underlying73 (Tryz.zeroValue35 _) hds
        rw [idxG_some] at hltk
        have x0 := (HK0.out.below hBw.out hz0).cell 0
        simp only [List.getElem?_toArray, List.getElem?_cons_zero] at x0
        clear hd hlk y0 y2
        cases hf : findT ts d with
        | none =>
          have hn : isT ts d = false := by unfold isT; rw [hf]; rfl
          have HE : Hid (ctE ps ts ⟨lab, kind, some ⟨bb, off, none⟩, dn, dc, deps, vA, vn, vc, vis⟩ = 8) := by show _ = _; rw [HE0.out, hE.out, HDE.out, hf]
          rw [idxG_none hn, hn] at hltk
          simp only [Option.getD_none] at hltk
          clear hn hf HDE
          go_wp2_with fail
          go_ret
          exact ⟨ret_int HE.out.symm, HBwr.out.alloc HBwr.out.size _⟩
        | some o =>
          have hn : isT ts d = true := by unfold isT; rw [hf]; rfl
          have hol := findT_lab hf
          have HOO := Lib.hid (HTS.out o hol.2)
          have hos := HLS.out o hol.2
          have hg : idxG ts d = some (tgV o) := by unfold idxG; rw [hf]; rfl
          rw [hf] at HDE
          simp only at HDE
          rw [hg, hn] at hltk
          simp only [Option.getD_some, tgV] at hltk
          clear hf hn hol hg
          obtain ⟨wb, hwb⟩ : ∃ wb, wr.alloc (.cells #[.string o.lab, .int .i64 o.kind, .slice o.dA o.dn o.dc, .slice o.vA o.vn o.vc] 35) = wb := ⟨_, rfl⟩
          have HBb : Hid (Below wr.heap.size wr wb) := by show Below _ _ _; rw [← hwb]; exact (Below.refl _ wr).alloc (Nat.le_refl _) _
          have hKb : Bk wb wr.heap.size 35 #[.string o.lab, .int .i64 o.kind, .slice o.dA o.dn o.dc, .slice o.vA o.vn o.vc] := by rw [← hwb]; exact Bk.new wr _ _
          have b0 := hKb.cell 0; have b1 := hKb.cell 1; have b2 := hKb.cell 2; have b3 := hKb.cell 3
          simp only [List.getElem?_toArray, List.getElem?_cons_zero, List.getElem?_cons_succ] at b0 b1 b2 b3
          have HBwb : Hid (Below w.heap.size w wb) := HBwr.out.trans (HBb.out.mono HBwr.out.size)
          have x0b : wb.cell? ⟨w.heap.size, 0, none⟩ = some (.string lab) := (HBb.out.cell (p := ⟨w.heap.size, 0, none⟩) (by show w.heap.size < wr.heap.size; omega)).trans x0
          have HV := Lib.hid (visible_any o lab B wb (HOO.out.below HBwb.out hB) (Nat.le_trans hB HBwb.out.size) (by omega) (by omega))
          have HWb := Lib.hid hwb
          clear hKb hwb
          by_cases hk2 : o.kind = 2
          · have HE : Hid (ctE ps ts ⟨lab, kind, some ⟨bb, off, none⟩, dn, dc, deps, vA, vn, vc, vis⟩ = 9) := by show _ = _; rw [HE0.out, hE.out, HDE.out, if_pos hk2]
            have hkb : (o.kind == 2) = true := by simp [hk2]
            clear hk2 HDE
            have b1' : (wr.alloc (.cells #[.string o.lab, .int .i64 o.kind, .slice o.dA o.dn o.dc, .slice o.vA o.vn o.vc] 35)).cell? ⟨wr.heap.size, 1, none⟩ = some (.int .i64 o.kind) := by rw [HWb.out]; exact b1
            obtain ⟨ol, ok, oA, on, oc, od, pA, pn, pc, pv⟩ := o
            simp only at hltk b1' hkb
            go_wp2_with fail
            go_ret
            exact ⟨ret_int HE.out.symm, HBwr.out.alloc HBwr.out.size _⟩
          · have hkb : (o.kind == 2) = false := by simp [hk2]
            rw [if_neg hk2] at HDE
            clear hk2
            have b1' : (wr.alloc (.cells #[.string o.lab, .int .i64 o.kind, .slice o.dA o.dn o.dc, .slice o.vA o.vn o.vc] 35)).cell? ⟨wr.heap.size, 1, none⟩ = some (.int .i64 o.kind) := by rw [HWb.out]; exact b1
            have b0' : (wr.alloc (.cells #[.string o.lab, .int .i64 o.kind, .slice o.dA o.dn o.dc, .slice o.vA o.vn o.vc] 35)).cell? ⟨wr.heap.size, 0, none⟩ = some (.string o.lab) := by rw [HWb.out]; exact b0
            have b2' : (wr.alloc (.cells #[.string o.lab, .int .i64 o.kind, .slice o.dA o.dn o.dc, .slice o.vA o.vn o.vc] 35)).cell? ⟨wr.heap.size, 2, none⟩ = some (.slice o.dA o.dn o.dc) := by rw [HWb.out]; exact b2
            have b3' : (wr.alloc (.cells #[.string o.lab, .int .i64 o.kind, .slice o.dA o.dn o.dc, .slice o.vA o.vn o.vc] 35)).cell? ⟨wr.heap.size, 3, none⟩ = some (.slice o.vA o.vn o.vc) := by rw [HWb.out]; exact b3
            have x0' : (wr.alloc (.cells #[.string o.lab, .int .i64 o.kind, .slice o.dA o.dn o.dc, .slice o.vA o.vn o.vc] 35)).cell? ⟨w.heap.size, 0, none⟩ = some (.string lab) := by rw [HWb.out]; exact x0b
            clear b0 b1 b2 b3 x0b
            cases hv : visT o.lab o.vis lab with
            | false =>
              have HE : Hid (ctE ps ts ⟨lab, kind, some ⟨bb, off, none⟩, dn, dc, deps, vA, vn, vc, vis⟩ = 24) := by show _ = _; rw [HE0.out, hE.out, HDE.out, if_pos hv]
              rw [hv] at HV
              clear hv HDE
              obtain ⟨ol, ok, oA, on, oc, od, pA, pn, pc, pv⟩ := o
              simp only [tgV] at hltk b0' b1' b2' b3' x0' hkb HV HWb
              go_wp2_with (go_at_call 17; rw [HWb.out]; refine HV.out.mono ?_; rintro e w5 ⟨rfl, hb5⟩)
              go_ret
              exact ⟨ret_int HE.out.symm, HBwb.out.trans (hb5.mono HBwb.out.size)⟩
            | true =>
              have HN : Hid (depE ts lab deps = depE ts lab (deps.drop (k + 1))) := by show _ = _; rw [hE.out, HDE.out, if_neg (by rw [hv]; decide)]
              rw [hv] at HV
              clear hv HDE
              obtain ⟨ol, ok, oA, on, oc, od, pA, pn, pc, pv⟩ := o
              simp only [tgV] at hltk b0' b1' b2' b3' x0' hkb HV HWb HBb
              go_wp2_with (go_at_call 17; rw [HWb.out]; refine HV.out.mono ?_; rintro e w5 ⟨rfl, hb5⟩)
              go_roundw
              case rel => exact ⟨k + 1, by go_num, hlt, HN.out, hBw.out.trans ((HBb.out.trans (hb5.mono HBb.out.size)).mono hzr)⟩
              case measure => simp [intOf]; omega
      · have hlz : ¬ (k : Int) < (dn : Int) := by omega
        have HE : Hid (ctE ps ts ⟨lab, kind, dA, dn, dc, deps, vA, vn, vc, vis⟩ = 0) := by show _ = _; rw [HE0.out, hE.out, List.drop_of_length_le (by omega)]; rfl
        go_wp2_with fail
        go_ret
        exact ⟨ret_int HE.out.symm, HBwr.out⟩
end Go.Proofs.YtddlohbhchjjhaaGreatDoor

namespace Go.Proofs.YtddlohbhchjjhaaGreatDoor
open Go.RowKit Go.Shelf Go.Sort Go.Lib
attribute [local go_sem] Oper.semAt_some

instance : Inhabited Tg := ⟨⟨⟨#[]⟩, 0, none, 0, 0, [], none, 0, 0, []⟩⟩
theorem cmp_less : ∀ a b : List UInt8, decide (Lib.compareBytes a b < 0) = Op.bytesLess a b
  | [], [] => rfl
  | [], _ :: _ => rfl
  | _ :: _, [] => rfl
  | a :: x, b :: y => by
    have ih := cmp_less x y
    simp only [Lib.compareBytes, Op.bytesLess]
    by_cases h1 : a < b
    · simp [h1]
    · by_cases h2 : b < a
      · have h3 : (a == b) = false := by rw [beq_eq_false_iff_ne]; rintro rfl; exact h1 h2
        simp [h1, h2, h3]
      · have h3 : a = b := by
          apply UInt8.toNat_inj.1
          rw [UInt8.lt_iff_toNat_lt] at h1 h2
          omega
        subst h3
        rw [← ih]; simp [UInt8.lt_irrefl]
def cfT (x y : Tg) : Int := Lib.compareBytes x.lab.data.toList y.lab.data.toList
theorem lt_cfT (x y : Tg) : ltOf cfT x y = less x.lab y.lab := cmp_less _ _
theorem swoT : SWO (ltOf cfT) where
  irrefl x := by rw [lt_cfT]; exact lessB_irrefl _
  trans x y z h1 h2 := by rw [lt_cfT] at *; exact lessB_trans h1 h2
  ntrans x y z h1 h2 := by
    rw [lt_cfT] at *
    cases h3 : less x.lab z.lab with
    | false => rfl
    | true =>
      cases h4 : less z.lab y.lab with
      | true => rw [lessB_trans h3 h4] at h1; cases h1
      | false =>
        have := lessB_conn h2 h4
        rw [this] at h1; rw [h1] at h3; cases h3
set_option maxHeartbeats 1000000 in
theorem load1_any (x y : Tg) (W : World) : Calls Tryz.prog 51 #[.agg (tgC x).toArray, .agg (tgC y).toArray] W fun e w' => e = .returned (.int .i64 (cfT x y)) ∧ ∃ q os', w' = grow (W.drewN q) os' := by
  have hcon := fun W' => Tryz.strings_Compare x.lab y.lab W'
  obtain ⟨a, a1, a2, a3, a4, a5, a6, a7, a8, a9⟩ := x
  obtain ⟨b, b1, b2, b3, b4, b5, b6, b7, b8, b9⟩ := y
  simp only [cfT, tgC] at hcon ⊢
  generalize Lib.compareBytes a.data.toList b.data.toList = r at hcon ⊢
  have HC := Lib.hid hcon
  clear hcon
  go_enter Tryz.func51, Tryz.ntmps51
  go_wp2_with (go_at_call 52; refine (HC.out _).mono ?_; rintro e w' ⟨rfl, rfl⟩)
  go_ret
  exact ⟨rfl, 0, _, by rw [alloc_eq_grow, alloc_eq_grow, grow_grow]; rfl⟩
theorem flatK_flat (ts : List Tg) : (flatK tgC 4 ts.toArray).toList = flat tgC ts := by
  apply List.ext_getElem?
  intro t
  by_cases ht : t < ts.length * 4
  · have hk : t / 4 < ts.length := by omega
    have hx : ts[t / 4]? = some ts[t / 4] := List.getElem?_eq_getElem hk
    have h1 := flat_get tgC_len ts (t / 4) (t % 4) _ hx (by omega)
    rw [show t / 4 * 4 + t % 4 = t by omega] at h1
    have h2 : t < (flatK tgC 4 ts.toArray).size := by simpa using ht
    rw [h1, Array.getElem?_toList, Array.getElem?_eq_getElem h2]
    have h3 := get_flatK tgC 4 ts.toArray t (by simpa using ht)
    rw [getElem!_pos (flatK tgC 4 ts.toArray) t h2] at h3
    rw [h3, show ts.toArray[t / 4]! = ts[t / 4] by simp [hk]]
    have h4 : t % 4 < (tgC ts[t / 4]).length := by rw [tgC_len]; omega
    rw [getElem!_pos (tgC ts[t / 4]) (t % 4) h4, List.getElem?_eq_getElem h4]
  · rw [List.getElem?_eq_none (by simp; omega), List.getElem?_eq_none (by rw [flat_len tgC_len]; omega)]
theorem putCells_takeK (off n : Nat) (d : Array Value) (cur : Array Value) (hd : d.size = n) (ho : off = 0) (hn : n ≤ cur.size) : (putCells id off d cur).toList.take n = d.toList := by
  subst ho hd
  apply List.ext_getElem?
  intro k
  rw [List.getElem?_take]
  by_cases hk : k < d.size
  · have hk2 : k < cur.size := by omega
    rw [if_pos hk]
    simp [putCells, hk, hk2]
  · rw [if_neg hk, List.getElem?_eq_none (by simp; omega)]
/-- sorted by their labels -/
def SrtT (ts : List Tg) : Prop := ts.Pairwise (fun a b => less b.lab a.lab = false)
theorem own_len {w : World} {base n c : Nat} {A : Option Addr} {e : TypeId} {ts : List Tg} (h : w.ownsRow base e 4 (.slice A n c) n (flat tgC ts)) : ts.length = n := by
  have := h.1; rw [flat_len tgC_len] at this; omega
set_option maxHeartbeats 1000000 in
theorem sortTgt_any (base n c : Nat) (A : Option Addr) (ts : List Tg) (w : World) (h : w.ownsRow base 35 4 (.slice A n c) n (flat tgC ts)) (hn : n ≤ 1000000) :
    Calls Tryz.prog 50 #[.slice A n c, .func (.func 51) #[] #[]] w fun e w' => e = .returned (.tuple #[]) ∧ ∃ us, us.Perm ts ∧ SrtT us ∧ w'.ownsRow base 35 4 (.slice A n c) n (flat tgC us) ∧ w.grownBy w' (Value.slice A n c).ownBlock := by
  have hl := own_len h
  have eg : ∀ args w, (callFunc 51 args).run Tryz.prog w = .ok (.enter 51 args) w := enters_of Tryz.func51 (by kernel_rfl) rfl
  rcases h.2 with ⟨hv, h0⟩ | ⟨g, cap, cur, hv, h1, h2, h3, h4, h5, h6⟩
  · simp only [Value.slice.injEq] at hv
    obtain ⟨rfl, _, rfl⟩ := hv
    subst h0
    obtain rfl : ts = [] := List.eq_nil_of_length_eq_zero hl
    have hc := AnyF.slices_SortFunc_none Tryz.sortTgt none 0 (.func (.func 51) #[] #[]) w
    change Calls Tryz.prog 50 _ _ _ at hc
    refine hc.mono ?_
    rintro e w' ⟨rfl, rfl⟩
    exact ⟨rfl, [], .refl _, List.Pairwise.nil, h, rfl, rfl, rfl, Nat.le_refl _, fun _ _ _ => rfl⟩
  · simp only [Value.slice.injEq] at hv
    obtain ⟨rfl, _, rfl⟩ := hv
    have hsz : n * 4 ≤ cur.size := by omega
    have hlt := (Array.getElem?_eq_some_iff.1 h2).1
    have hH : HoldsK tgC 4 w g 0 ts.toArray := by
      intro j hj
      have hj' : j < ts.length * 4 := by simpa using hj
      refine ⟨?_, by simp [World.frozen?, h2]⟩
      have h7 : (flat tgC ts)[j]? = some ((flatK tgC 4 ts.toArray)[j]!) := by
        rw [← flatK_flat, Array.getElem?_toList, Array.getElem?_eq_getElem (by simpa using hj'), getElem!_pos (flatK tgC 4 ts.toArray) j (by simpa using hj')]
      rw [← h6, List.getElem?_take, if_pos (by omega)] at h7
      show w.cell? ⟨g, 0 + j, none⟩ = _
      simp [World.cell?, h2]
      simpa using h7
    have hc := AnyQ.slices_SortFunc Tryz.sortTgt 4 Tryz.isAgg35 Tryz.sizeOf35 tgC tgC_len (fun x v hv => by simp [tgC] at hv; rcases hv with rfl | rfl | rfl | rfl <;> rfl) cfT swoT 51 #[] g 0 c ts.toArray w eg (fun _ _ _ _ x y => load1_any x y _) hH hlt (by simp; omega)
    change Calls Tryz.prog 50 _ _ _ at hc
    rw [List.size_toArray, hl] at hc
    refine hc.mono ?_
    rintro e w' ⟨rfl, d', k, os, hp, hs, rfl⟩
    have hd : d'.size = n := by rw [hp.1]; simpa using hl
    have hpp : d'.toList.Perm ts := by
      have := hp.2.2
      have e1 : d'.extract 0 n = d' := by rw [← hd]; simp
      have e2 : ts.toArray.extract 0 n = ts.toArray := by rw [← hl]; simp
      rw [e1, e2] at this
      simpa using this
    have hso : SrtT d'.toList := by
      unfold SrtT
      rw [List.pairwise_iff_getElem]
      intro i j hi hj hij
      have hi' : i < d'.size := by simpa using hi
      have hj' : j < d'.size := by simpa using hj
      have := hs i j (Nat.zero_le _) hij (by omega)
      rw [lt_cfT, getElem!_pos d' j hj', getElem!_pos d' i hi'] at this
      simpa using this
    have hfs : (flatK tgC 4 d').size = n * 4 := by rw [size_flatK, hd]
    refine ⟨rfl, d'.toList, hpp, hso, ⟨by rw [flat_len tgC_len, Array.length_toList, hd], .inr ⟨g, c, putCells id 0 (flatK tgC 4 d') cur, rfl, h1, ?_, h3, h4, by simp [putCells]; omega, ?_⟩⟩, rfl, rfl, rfl, by simp [sortWorldK, putRowK, grow, putRow, mapBlock, Sort.ahead], fun b hb hr => ?_⟩
    · simp only [sortWorldK, putRowK, grow, putRow, mapBlock, Sort.ahead]
      rw [Array.getElem?_append_left (by simpa using hlt), Array.getElem?_modify, if_pos rfl, h2]
      rfl
    · rw [putCells_takeK 0 (n * 4) _ cur hfs rfl hsz, ← flatK_flat]
    · simp only [sortWorldK, putRowK, grow, putRow, mapBlock, Sort.ahead]
      rw [Array.getElem?_append_left (by simpa using hb), Array.getElem?_modify, if_neg (fun e => hr (by rw [e]; rfl))]
end Go.Proofs.YtddlohbhchjjhaaGreatDoor

namespace Go.Proofs.YtddlohbhchjjhaaGreatDoor
open Go.RowKit

def vchI (c : Int) : Bool := ((decide (97 ≤ c) && decide (c ≤ 122)) || ((decide (65 ≤ c) && decide (c ≤ 90)) || (decide (48 ≤ c) && decide (c ≤ 57)))) || (decide (c = 46) || (decide (c = 95) || decide (c = 45)))
def vchB (c : UInt8) : Bool := vchI (c.toNat : Int)
def nameL (l : List UInt8) : Bool := decide (1 ≤ l.length) && (decide (l.length ≤ 24) && (!(decide (l = [46])) && (!(decide (l = [46, 46])) && l.all vchB)))
def nameB (s : ByteArray) : Bool := nameL (bl s)
set_option maxHeartbeats 1000000 in
theorem vletter_any (c : Int) (w : World) : Calls Tryz.prog 181 #[.int .u8 c] w fun e w' => e = .returned (.bool (vchI c)) ∧ w = w' := by
  go_enter Tryz.func181, Tryz.ntmps181
  go_wp2
  all_goals (go_ret; refine ⟨ret_bool ?_, rfl⟩; rw [Bool.eq_iff_iff]; simp [vchI]; try omega)
def AllTo (l : List UInt8) (k : Nat) : Prop := ∀ j c, j < k → l[j]? = some c → vchB c = true
theorem AllTo.step {l : List UInt8} {k : Nat} {c : UInt8} (h : AllTo l k) (hc : l[k]? = some c) (ho : vchB c = true) : AllTo l (k + 1) := fun j x hj hx => by
  by_cases e : j = k
  · subst e; rw [hc] at hx; cases hx; exact ho
  · exact h j x (by omega) hx
theorem AllTo.all {l : List UInt8} (h : AllTo l l.length) : l.all vchB = true := by
  rw [List.all_eq_true]
  intro c hc
  obtain ⟨j, hj, e⟩ := List.getElem_of_mem hc
  exact h j c hj (by rw [← e]; exact List.getElem?_eq_getElem _)
set_option maxRecDepth 100000 in
set_option maxHeartbeats 1000000 in
theorem vname_any (s : ByteArray) (w : World) (hs : s.size ≤ maxLen) : Calls Tryz.prog 133 #[.string s] w fun e w' => e = .returned (.bool (nameB s)) ∧ w = w' := by
  unfold maxLen at hs
  have HL := Lib.hid (size_len s)
  go_enter Tryz.func133, Tryz.ntmps133
  have hno : ∀ b : Bool, nameB s = b → Hid (nameB s = b) := fun b h => h
  have hls : (bl s).length = s.size := (size_len s).symm
  by_cases c1 : (s.size : Int) < 1
  · have hv := hno false (by unfold nameB nameL; rw [decide_eq_false (by omega), Bool.false_and])
    clear hno hls
    go_wp2_with fail
    go_ret
    exact ⟨ret_bool hv.out.symm, rfl⟩
  by_cases c2 : (24 : Int) < (s.size : Int)
  · have hv := hno false (by unfold nameB nameL; rw [decide_eq_false (p := (bl s).length ≤ 24) (by omega)]; simp)
    clear hno hls
    go_wp2_with fail
    go_ret
    exact ⟨ret_bool hv.out.symm, rfl⟩
  have h3 : (s.toList == [46]) = decide (bl s = [46]) := by rw [ByteArray.toList_eq]; unfold bl; rw [Bool.eq_iff_iff]; simp
  have h4 : (s.toList == [46, 46]) = decide (bl s = [46, 46]) := by rw [ByteArray.toList_eq]; unfold bl; rw [Bool.eq_iff_iff]; simp
  by_cases c3 : bl s = [46]
  · have hv := hno false (by unfold nameB nameL; rw [decide_eq_true c3]; simp)
    rw [decide_eq_true c3] at h3
    clear hno hls h4 c3
    go_wp2_with fail
    go_ret
    exact ⟨ret_bool hv.out.symm, rfl⟩
  rw [decide_eq_false c3] at h3
  by_cases c4 : bl s = [46, 46]
  · have hv := hno false (by unfold nameB nameL; rw [decide_eq_true c4]; simp)
    rw [decide_eq_true c4] at h4
    clear hno hls c4 c3
    go_wp2_with fail
    go_ret
    exact ⟨ret_bool hv.out.symm, rfl⟩
  rw [decide_eq_false c4] at h4
  have HV : Hid (nameB s = (bl s).all vchB) := by
    show _ = _
    unfold nameB nameL
    rw [decide_eq_true (p := 1 ≤ (bl s).length) (by omega), decide_eq_true (p := (bl s).length ≤ 24) (by omega), decide_eq_false c3, decide_eq_false c4]
    simp
  have HLS := Lib.hid hls
  clear hno c3 c4 hls
  go_wp2_with fail
  go_loop [22] (fun i => ∃ k : Nat, k ≤ s.size ∧ i = .int .i64 k ∧ Hid (AllTo (bl s) k)) (fun i => s.size - (intOf i).toNat)
  case atStart => exact ⟨0, Nat.zero_le _, rfl, fun j c h => absurd h (by omega)⟩
  case round =>
    obtain ⟨k, hk, rfl, hA⟩ := hrel
    by_cases hlt : k < s.size
    · have hkz : (k : Int) < (s.size : Int) := by omega
      have HG := Lib.hid (get_data s k hlt)
      have HLT := Lib.hid (vletter_any (s[k].toNat : Int))
      cases hv : vchI (s[k].toNat : Int) with
      | true =>
        have HA2 : Hid (AllTo (bl s) (k + 1)) := hA.out.step HG.out hv
        rw [hv] at HLT
        clear hv hA
        go_wp2_with (go_at_call 181; refine (HLT.out _).mono ?_; rintro e w' ⟨rfl, rfl⟩)
        go_round
        case rel => exact ⟨k + 1, hlt, by go_num, HA2.out⟩
        case measure => simp [intOf]; omega
      | false =>
        have HF : Hid (nameB s = false) := by
          show _ = _
          rw [HV.out, List.all_eq_false]
          exact ⟨s[k], List.mem_of_getElem? HG.out, by unfold vchB; rw [hv]; simp⟩
        rw [hv] at HLT
        clear hv hA
        go_wp2_with (go_at_call 181; refine (HLT.out _).mono ?_; rintro e w' ⟨rfl, rfl⟩)
        go_ret
        exact ⟨ret_bool HF.out.symm, rfl⟩
    · have hkz : ¬ (k : Int) < (s.size : Int) := by omega
      have HT : Hid (nameB s = true) := by
        show _ = _
        rw [HV.out]
        refine AllTo.all ?_
        have := hA.out
        rwa [show k = (bl s).length from by rw [HLS.out]; omega] at this
      clear hA
      go_wp2_with fail
      go_ret
      exact ⟨ret_bool HT.out.symm, rfl⟩
end Go.Proofs.YtddlohbhchjjhaaGreatDoor

namespace Go.Proofs.YtddlohbhchjjhaaGreatDoor
open Go.RowKit Go.Shelf
attribute [local go_sem] Oper.semAt_some

def pathB (s : ByteArray) : Bool := decide ((bl s).length ≤ 100) && (splitS (bl s)).all nameL
theorem resultsPth {w : World} {a : Array Value} {r : Nat} {x : Bool} (ha : a[2]?.getD undef = .pointer (some ⟨r, 0, none⟩)) (h : w.heap[r]? = some (.cells #[.bool x] 4 (0, 0))) :
    (results Tryz.f91 a).run Tryz.prog w = .ok (.bool x) w := by
  have hc := cell_of_one h
  simp [results, Tryz.results91, ha, go_sem, hc]

set_option maxRecDepth 100000 in
set_option maxHeartbeats 1000000 in
theorem isPath_any (s : ByteArray) (w : World) (hs : s.size ≤ maxLen) :
    Calls Tryz.prog 91 #[.string s] w fun e w' => e = .returned (.bool (pathB s)) ∧ Below w.heap.size w w' := by
  refine (callsIn_wide (n := 6)).1 ?_
  unfold maxLen at hs
  have HL := Lib.hid (size_len s)
  have hf65 : Fence.wide.fn 111 := trivial
  have hf66 : Fence.wide.fn 133 := trivial
  refine callsIn_of_wp_marks Tryz.func91 rfl trivial ?_ rfl
  simp only [Tryz.ntmps91, List.size_toArray, List.length_cons, List.length_nil, Nat.reduceAdd, Nat.reduceSub, Array.replicate_succ, Array.replicate_zero, List.push_toArray, List.append_toArray, List.nil_append, List.cons_append]
  by_cases c1 : 100 < (s.size : Int)
  · have hv : Hid (pathB s = false) := by
      show _ = _
      have := HL.out
      unfold pathB bl; rw [decide_eq_false (by omega), Bool.false_and]
    gi_wp2_with fail
    refine ⟨_, resultsPth rfl (World.alloc_heap_new w _), ?_⟩
    exact ⟨ret_bool hv.out.symm, (Below.refl _ _).alloc (Nat.le_refl _) _⟩
  have c1' : (s.size : Int) ≤ 100 := by omega
  have HN : Hid (pathB s = (splitS (bl s)).all nameL) := by
    show _ = _
    have := HL.out
    unfold pathB; rw [decide_eq_true (by unfold bl; omega), Bool.true_and]
  gi_wp2_with (gi_at_call 111; refine (callsIn_wide.2 (splitSeq_any _ _)).mono ?_; rintro e w' ⟨rfl, rfl⟩)
  obtain ⟨W0, hW0⟩ : ∃ W0, (((w.alloc (.cells #[.bool false] 4)).alloc (.cells #[.string s] 9)).alloc (.cells #[.string ⟨#[47]⟩] 9)).alloc (.cells #[.int .i64 0] 3) = W0 := ⟨_, rfl⟩
  have hz : W0.heap.size = w.heap.size + 4 := by rw [← hW0]; simp
  have g0 : W0.heap[w.heap.size]? = some (.cells #[.bool false] 4 (0, 0)) := by
    rw [← hW0]
    exact (Below.heap_alloc _ _ _ (by simp; omega)).trans ((Below.heap_alloc _ _ _ (by simp; omega)).trans ((Below.heap_alloc _ _ _ (by simp)).trans (World.alloc_heap_new w _)))
  have g1 : W0.heap[w.heap.size + 1]? = some (.cells #[.string s] 9 (0, 0)) := by
    rw [← hW0]
    refine (Below.heap_alloc _ _ _ (by simp)).trans ((Below.heap_alloc _ _ _ (by simp)).trans ?_)
    have := World.alloc_heap_new (w.alloc (.cells #[.bool false] 4)) (.cells #[.string s] 9); rwa [World.size_alloc] at this
  have g2 : W0.heap[w.heap.size + 1 + 1]? = some (.cells #[.string ⟨#[47]⟩] 9 (0, 0)) := by
    rw [← hW0]
    refine (Below.heap_alloc _ _ _ (by simp)).trans ?_
    have := World.alloc_heap_new ((w.alloc (.cells #[.bool false] 4)).alloc (.cells #[.string s] 9)) (.cells #[.string ⟨#[47]⟩] 9); rwa [World.size_alloc, World.size_alloc] at this
  have g3 : W0.heap[w.heap.size + 1 + 2]? = some (.cells #[.int .i64 0] 3 (0, 0)) := by
    rw [← hW0]
    have := World.alloc_heap_new (((w.alloc (.cells #[.bool false] 4)).alloc (.cells #[.string s] 9)).alloc (.cells #[.string ⟨#[47]⟩] 9)) (.cells #[.int .i64 0] 3); rwa [World.size_alloc, World.size_alloc, World.size_alloc] at this
  have hb0 : Below w.heap.size w W0 := by
    rw [← hW0]
    exact ((((Below.refl _ w).alloc (Nat.le_refl _) _).alloc (by simp) _).alloc (by simp; omega) _).alloc (by simp; omega) _
  rw [hW0]
  refine wpIn_rangeP (F := Fence.wide) (n := 6) rfl (by omega) (gf := 213) (lb := #[.pointer (some ⟨w.heap.size + 1 + 1, 0, none⟩), .pointer (some ⟨w.heap.size + 1, 0, none⟩), .pointer (some ⟨w.heap.size + 1 + 2, 0, none⟩)]) rfl trivial (enters_of Tryz.func213 (by kernel_rfl) rfl)
    (split1_st 5 (w.heap.size + 1) (by omega) s W0 (by omega) (by omega) g1 g2 g3) keepS_t (fun W l o hl => keepS_put (m := w.heap.size + 4) (by omega) W l o (by omega)) (stS_others) (Below.refl _ _) (fun _ => rfl)
    (fun pre W => W.heap[w.heap.size]? = some (.cells #[.bool false] 4 (0, 0)) ∧ Hid (∀ x ∈ pre, nameB x = true) ∧ Below w.heap.size w W ∧ w.heap.size + 4 ≤ W.heap.size)
    (fun c pre W => c = .ret ∧ W.heap[w.heap.size]? = some (.cells #[.bool false] 4 (0, 0)) ∧ Hid (∃ x ∈ pre, nameB x = false) ∧ Below w.heap.size w W)
    ?hI ?hIx ?hIS ⟨g0, by simp [Hid], hb0, by omega⟩ ?a1 ?assign ?body ?done ?stop
  case assign =>
    intro l x W K hK
    have HKK := Lib.hid hK
    clear hK
    gi_wp2
    exact HKK.out
  case hI =>
    rintro pre A B row ⟨h1, h2, h3, h4⟩ hg hr
    refine ⟨one_grown' h1 hg (fun e => ?_), h2, h3.grown hg h3.size (fun k e => ?_), Nat.le_trans h4 hg.size⟩
    · have := (hr _ e.symm).1; omega
    · have := (hr _ e).1; omega
  case hIx =>
    rintro c pre A B row ⟨h0, h1, h2, h3⟩ hg hr
    refine ⟨h0, one_grown' h1 hg (fun e => ?_), h2, h3.grown hg h3.size (fun k e => ?_)⟩
    · have := (hr _ e.symm).1; omega
    · have := (hr _ e).1; omega
  case hIS =>
    rintro pre A B ⟨h1, h2, h3, h4⟩ ⟨v, rfl⟩
    exact ⟨(Below.heap_setCell _ _ _ _ (by simp)).trans h1, h2, h3.setCell (p := ⟨w.heap.size + 1, 0, none⟩) (by simp) _, by simpa [World.setCell] using h4⟩
  case body =>
    rintro l pre x W ⟨r, hr⟩ ⟨h1, h2, h3, h4⟩
    have hxs : x.size ≤ maxLen := by
      have hm : bl x ∈ splitS (bl s) := by rw [← hr]; simp
      have h5 := splitS_len (bl s) _ hm
      have h6 := size_len x
      have h7 := HL.out
      unfold bl at h5; unfold maxLen; omega
    have c0 := cell_of_one h1
    have f0 := free_of_one h1
    have H1 := Lib.hid h1; have H3 := Lib.hid h3
    clear h1 h3 g0 g1 g2 g3 hb0 hW0 hr
    cases hv : nameB x with
    | true =>
      have HV := Lib.hid hv
      clear hv
      gi_wp2_with (gi_at_call 133; refine (CallsIn.inRound l (callsIn_wide.2 (vname_any x _ hxs))).mono ?_; rintro e w' ⟨rfl, rfl⟩; rw [HV.out])
      refine ⟨⟨Nat.le_refl _, fun k o hk _ => hk⟩, fun k h5 h6 => rfl, H1.out, ?_, H3.out, h4⟩
      intro y hy
      rcases List.mem_append.1 hy with h | h
      · exact h2.out y h
      · simp at h; subst h; exact HV.out
    | false =>
      have HV := Lib.hid hv
      clear hv
      gi_wp2_with (gi_at_call 133; refine (CallsIn.inRound l (callsIn_wide.2 (vname_any x _ hxs))).mono ?_; rintro e w' ⟨rfl, rfl⟩; rw [HV.out])
      exact ⟨KeepsOthers.setCell _ _ _, rfl, one_setCell H1.out, ⟨x, by simp, HV.out⟩, H3.out.setCell (p := ⟨w.heap.size, 0, none⟩) (Nat.le_refl _) _⟩
  case done =>
    rintro D xs W hD hS ⟨h1, h2, h3, h4⟩ hK
    have c0 := cell_of_one h1
    have f0 := free_of_one h1
    have H1 := Lib.hid h1; have H3 := Lib.hid h3; have HK := Lib.hid hK; have HS := Lib.hid hS
    clear h1 h3 hK hS
    gi_wp2
    have hK2 := (KeepsOthers.setCell W ⟨w.heap.size, 0, none⟩ (.bool true)).same D _ HK.out rfl
    refine ⟨by simp, .inl ⟨_, _, rfl, run_takeDeferred hK2, ?_⟩⟩
    refine ⟨_, resultsPth rfl ((World.putObj_heap_other (by omega)).trans (one_setCell H1.out)), ret_bool ?_, ?_⟩
    · rw [HN.out]
      symm
      rw [List.all_eq_true]
      intro y hy
      have hy' : y ∈ xs.map bl := by rw [HS.out]; exact hy
      obtain ⟨x, hx, rfl⟩ := List.mem_map.1 hy'
      exact h2.out x hx
    · exact (H3.out.setCell (p := ⟨w.heap.size, 0, none⟩) (Nat.le_refl _) _).grown (grownBy_putObj' _ _ _) ((H3.out.setCell (p := ⟨w.heap.size, 0, none⟩) (Nat.le_refl _) _).size) (fun k e => by cases e; omega)
  case stop =>
    rintro D c pre W hD hS ⟨rfl, h1, h2, h3⟩ hK
    have H1 := Lib.hid h1; have H3 := Lib.hid h3; have HK := Lib.hid hK; have HS := Lib.hid hS
    clear h1 h3 hK hS
    gi_wp2
    refine ⟨by simp, .inl ⟨_, _, rfl, run_takeDeferred HK.out, ?_⟩⟩
    refine ⟨_, resultsPth rfl ((World.putObj_heap_other (by omega)).trans H1.out), ret_bool ?_, ?_⟩
    · rw [HN.out]
      symm
      rw [List.all_eq_false]
      obtain ⟨x, hx, hxv⟩ := h2.out
      obtain ⟨r, hr⟩ := HS.out
      refine ⟨bl x, ?_, by simpa [nameB] using hxv⟩
      rw [← hr]
      exact List.mem_append.2 (.inl (List.mem_map.2 ⟨x, hx, rfl⟩))
    · exact H3.out.grown (grownBy_putObj' _ _ _) H3.out.size (fun k e => by cases e; omega)
end Go.Proofs.YtddlohbhchjjhaaGreatDoor

namespace Go.Proofs.YtddlohbhchjjhaaGreatDoor
open Go.RowKit

/-- Of all that is no builder and no row of bytes, nothing turns. -/
structure Kt (w w' : World) : Prop where
  others : KeepsOthers w w'
  same : ∀ (k : Nat) (cs : Array Value) (t : TypeId) (fr : Nat × Nat), t ≠ 5 → t ≠ 108 → w.heap[k]? = some (.cells cs t fr) → w'.heap[k]? = some (.cells cs t fr)
theorem Kt.refl (w : World) : Kt w w := ⟨KeepsOthers.refl w, fun _ _ _ _ _ _ h => h⟩
theorem Kt.trans {a b c : World} (h : Kt a b) (k : Kt b c) : Kt a c := ⟨h.others.trans k.others, fun i cs t fr h5 h9 hi => k.same i cs t fr h5 h9 (h.same i cs t fr h5 h9 hi)⟩
theorem Kt.alloc (w : World) (o : Obj) : Kt w (w.alloc o) := ⟨KeepsOthers.alloc w o, fun k _ _ _ _ _ h => (Below.heap_alloc w o k (Array.getElem?_eq_some_iff.1 h).1).trans h⟩
theorem Kt.setCell {w : World} {b i : Nat} {cs : Array Value} {fr : Nat × Nat} (hb : w.heap[b]? = some (.cells cs 108 fr)) (v : Value) : Kt w (w.setCell ⟨b, i, none⟩ v) :=
  ⟨KeepsOthers.setCell _ _ _, fun k cs' t fr' _ h9 h => (Below.heap_setCell w ⟨b, i, none⟩ v k (fun e => by
    have e' : k = b := e
    rw [e', hb] at h
    simp only [Option.some.injEq, Obj.cells.injEq] at h
    exact h9 h.2.1.symm)).trans h⟩
theorem Kt.grown {w w' : World} {base size n : Nat} {v : Value} {xs : List Value} (hown : w.ownsRow base 5 size v n xs) (hg : w.grownBy w' v.ownBlock) : Kt w w' := by
  have key : ∀ j, v.ownBlock = some j → ∃ cur, w.heap[j]? = some (.cells cur 5 (0, 0)) := by
    intro j hj
    rcases hown.2 with ⟨hv, _⟩ | ⟨g, cap, cur, hv, _, hh, _⟩
    · rw [hv] at hj; cases hj
    · rw [hv] at hj; cases hj; exact ⟨cur, hh⟩
  refine ⟨KeepsOthers.of_grownBy hg fun j o hj ho => ?_, fun k cs t fr h5 _ h => ?_⟩
  · obtain ⟨cur, hc⟩ := key j hj
    rw [hc] at ho; cases ho; rfl
  · refine (hg.block k (Array.getElem?_eq_some_iff.1 h).1 (fun e => ?_)).trans h
    obtain ⟨cur, hc⟩ := key k e.symm
    rw [hc] at h
    simp only [Option.some.injEq, Obj.cells.injEq] at h
    exact h5 h.2.1.symm
theorem infoByte : (Tryz.prog.info? 5).map (fun i => (i.zero, i.size, i.bytes)) = some (some (.int .u8 0), 1, 1) := by kernel_rfl

set_option maxHeartbeats 1000000 in
set_option maxRecDepth 100000 in
theorem copy_used (b : Nat) (w : World) (h0 : w.cell? ⟨b, 0, none⟩ = some (.pointer (some ⟨b, 0, none⟩))) :
    Calls Tryz.prog 117 #[.pointer (some ⟨b, 0, none⟩)] w fun e w' => e = .returned (.tuple #[]) ∧ w' = w := by
  obtain ⟨j, hj, _⟩ := Option.map_eq_some_iff.1 Tryz.Builder_Extra_169.sizeBuilder
  go_enter Tryz.func117, Tryz.ntmps117
  go_wp2
  rw [Lib.run_neq_ptr_same w _ Tryz.underlying105 hj]
  go_wp2
  go_end0
  exact ⟨rfl, rfl⟩

set_option maxHeartbeats 1000000 in
set_option maxRecDepth 100000 in
theorem copy_fresh (b : Nat) (w : World) (h0 : w.cell? ⟨b, 0, none⟩ = some (.pointer none)) (hsh : w.shape? b = some (108, 2)) (hfz : w.frozen? ⟨b, 0, none⟩ = false) :
    Calls Tryz.prog 117 #[.pointer (some ⟨b, 0, none⟩)] w fun e w' => e = .returned (.tuple #[]) ∧ w' = w.setCell ⟨b, 0, none⟩ (.pointer (some ⟨b, 0, none⟩)) := by
  obtain ⟨j, hj, hjs⟩ := Option.map_eq_some_iff.1 Tryz.Builder_Extra_169.sizeBuilder
  go_enter Tryz.func117, Tryz.ntmps117
  go_wp2
  rw [Lib.run_to_unsafe w ⟨b, 0, none⟩ Tryz.underlying105 Tryz.underlying191 hj (by rw [hjs]; decide) hsh (Nat.zero_lt_succ 1)]
  simp only [Result.andThen]
  rw [Oper.upon_value]
  go_wp2
  rw [run_callFunc_extern Tryz.func168 (by kernel_rfl) (by kernel_rfl) (by kernel_rfl) (e := Extern.AbiNoEscape.same) (by kernel_rfl)]
  rw [Lib.run_noEscape]
  simp only [Result.andThen]
  rw [Oper.upon_value]
  go_wp2
  rw [Lib.run_from_unsafe w ⟨b, 0, none⟩ Tryz.underlying191 Tryz.underlying105 hj hsh Tryz.Builder_Extra_169.liesBuilder]
  simp only [Result.andThen]
  rw [Oper.upon_value]
  go_wp2
  go_end0
  exact ⟨rfl, rfl⟩

theorem copy_any (B b : Nat) (bs : List Value) (w : World) (h : Lib.IsBuilder 108 5 B b bs w) :
    Calls Tryz.prog 117 #[.pointer (some ⟨b, 0, none⟩)] w fun e w' => e = .returned (.tuple #[]) ∧ (Lib.BuilderAt 108 5 B b (.pointer (some ⟨b, 0, none⟩)) bs w' ∧ Below B w w' ∧ Kt w w') := by
  rcases h with h | h
  · refine (copy_fresh b w h.cell0 h.shape h.frozen0).mono ?_
    rintro e w' ⟨rfl, rfl⟩
    obtain ⟨_, v, hb, _⟩ := id h
    exact ⟨rfl, h.used _, (Below.refl B w).setCell (p := ⟨b, 0, none⟩) h.1 _, Kt.setCell hb _⟩
  · refine (copy_used b w h.cell0).mono ?_
    rintro e w' ⟨rfl, rfl⟩
    exact ⟨rfl, h, Below.refl B _, Kt.refl _⟩

set_option maxHeartbeats 2000000 in
set_option maxRecDepth 100000 in
theorem writeByte_any (B b : Nat) (bs : List Value) (c : Int) (w : World) (h : Lib.IsBuilder 108 5 B b bs w) (hlen : bs.length + 1 ≤ 140737488355328) (hBw : B ≤ w.heap.size) :
    Calls Tryz.prog 248 #[.pointer (some ⟨b, 0, none⟩), .int .u8 c] w fun e w' => e = .returned .nilIface ∧ (Lib.BuilderAt 108 5 B b (.pointer (some ⟨b, 0, none⟩)) (bs ++ [.int .u8 c]) w' ∧ Below B w w' ∧ Kt w w') := by
  obtain ⟨i0, hi, hz0, hz1, hz2⟩ := info_parts infoByte
  go_enter Tryz.func248, Tryz.ntmps248
  go_wp2_with fail
  refine (copy_any B b bs _ h).mono ?_
  rintro e w1 ⟨rfl, h1, hb1, hk1⟩
  have HK1 := Lib.hid hk1; clear hk1
  obtain ⟨hB, v, hbk, hown, hne⟩ := h1
  have c0 : w1.cell? ⟨b, 0, none⟩ = some (.pointer (some ⟨b, 0, none⟩)) := by rw [Lib.cell_of_heap hbk]; rfl
  have c1 : w1.cell? ⟨b, 1, none⟩ = some v := by rw [Lib.cell_of_heap hbk]; rfl
  go_wp2_with (at_builtin; refine wpList_append_own _ rfl _ _ 106 rfl B 5 i0 (.int .u8 0) 1 1 Tryz.underlying106 hi hz0 hz1 hz2 rfl (by decide) _ _ _ rfl (hown.alloc _) ⟨w1.heap.size, 0, none⟩ 1 1 [.int .u8 c] rfl rfl ?c1 ?c2 ?c3 ?c4 ?c5 ?_)
  case c1 =>
    intro j u hj
    match j, hj with
    | 0, hj => simp at hj; subst hj; simp [Addr.add]
  case c2 => intro u hu; simp at hu; subst hu; rfl
  case c3 => unfold maxLen; omega
  case c4 => omega
  case c5 => have := hb1.size; simp; omega
  intro v' w2 hown' hgrow _
  have HK2 : Hid (Kt w w2) := (HK1.out.trans (Kt.alloc _ _)).trans (Kt.grown (hown.alloc _) hgrow)
  have hlt : b < w1.heap.size := (Array.getElem?_eq_some_iff.1 hbk).1
  have hb2 : w2.heap[b]? = some (.cells #[.pointer (some ⟨b, 0, none⟩), v] 108 (0, 0)) := by
    rw [hgrow.block b (by simp; omega) (fun e => hne e.symm), Lib.alloc_old w1 _ b hlt]
    exact hbk
  have d0 : w2.cell? ⟨b, 0, none⟩ = some (.pointer (some ⟨b, 0, none⟩)) := by rw [Lib.cell_of_heap hb2]; rfl
  have d1 : w2.cell? ⟨b, 1, none⟩ = some v := by rw [Lib.cell_of_heap hb2]; rfl
  have f1 : w2.frozen? ⟨b, 1, none⟩ = false := Lib.frozen_of_heap hb2 1
  obtain ⟨g, cap, rfl⟩ : ∃ g cap, v' = .slice (some ⟨g, 0, none⟩) (bs.length + 1) cap := by
    rcases hown'.2 with ⟨_, h0⟩ | ⟨g, cap, cur, hv, _⟩
    · omega
    · exact ⟨g, cap, hv⟩
  go_wp2
  go_ret
  refine ⟨rfl, ?_, ?_, HK2.out.trans (Kt.setCell hb2 _)⟩
  · exact Lib.BuilderAt.put (T := 108) (e := 5) hB hb2 (bs' := bs ++ [.int .u8 c]) (by simpa using hown') (by decide)
  · exact ((hb1.alloc (by have := hb1.size; omega) _).grown hgrow (by have := hb1.size; simp; omega) (fun k hk => (hown.lt k hk).1)).setCell (p := ⟨b, 1, none⟩) hB _

set_option maxHeartbeats 2000000 in
set_option maxRecDepth 100000 in
theorem writeString_any (B b : Nat) (bs : List Value) (s : ByteArray) (w : World) (h : Lib.IsBuilder 108 5 B b bs w) (hlen : bs.length + s.size ≤ 140737488355328) (hBw : B ≤ w.heap.size) :
    Calls Tryz.prog 82 #[.pointer (some ⟨b, 0, none⟩), .string s] w fun e w' => e = .returned (.tuple #[.int .i64 s.size, .nilIface]) ∧ (Lib.BuilderAt 108 5 B b (.pointer (some ⟨b, 0, none⟩)) (bs ++ Lib.strCells s) w' ∧ Below B w w' ∧ Kt w w') := by
  obtain ⟨i0, hi, hz0, hz1, hz2⟩ := info_parts infoByte
  go_enter Tryz.func82, Tryz.ntmps82
  go_wp2_with fail
  refine (copy_any B b bs _ h).mono ?_
  rintro e w1 ⟨rfl, h1, hb1, hk1⟩
  have HK1 := Lib.hid hk1; clear hk1
  obtain ⟨hB, v, hbk, hown, hne⟩ := h1
  have c0 : w1.cell? ⟨b, 0, none⟩ = some (.pointer (some ⟨b, 0, none⟩)) := by rw [Lib.cell_of_heap hbk]; rfl
  have c1 : w1.cell? ⟨b, 1, none⟩ = some v := by rw [Lib.cell_of_heap hbk]; rfl
  go_wp2_with (at_builtin; refine Lib.wpList_append_own_string _ rfl _ _ 106 9 rfl B 5 i0 Tryz.underlying106 Tryz.underlying9 hi hz0 hz1 hz2 _ _ _ rfl hown s rfl ?c3 ?c4 ?c5 ?_)
  case c3 => unfold maxLen; omega
  case c4 => omega
  case c5 => have := hb1.size; omega
  intro v' w2 hown' hgrow _
  have HK2 : Hid (Kt w w2) := HK1.out.trans (Kt.grown hown hgrow)
  have hlt : b < w1.heap.size := (Array.getElem?_eq_some_iff.1 hbk).1
  have hb2 : w2.heap[b]? = some (.cells #[.pointer (some ⟨b, 0, none⟩), v] 108 (0, 0)) := by
    rw [hgrow.block b hlt (fun e => hne e.symm)]
    exact hbk
  have d0 : w2.cell? ⟨b, 0, none⟩ = some (.pointer (some ⟨b, 0, none⟩)) := by rw [Lib.cell_of_heap hb2]; rfl
  have d1 : w2.cell? ⟨b, 1, none⟩ = some v := by rw [Lib.cell_of_heap hb2]; rfl
  have f1 : w2.frozen? ⟨b, 1, none⟩ = false := Lib.frozen_of_heap hb2 1
  obtain ⟨ao, n', cap, rfl⟩ : ∃ ao n' cap, v' = .slice ao n' cap := by
    rcases hown'.2 with ⟨hv, _⟩ | ⟨g, cap, cur, hv, _⟩
    · exact ⟨_, _, _, hv⟩
    · exact ⟨_, _, _, hv⟩
  go_wp2
  go_ret2
  refine ⟨rfl, ?_, ?_, HK2.out.trans (Kt.setCell hb2 _)⟩
  · exact Lib.BuilderAt.put (T := 108) (e := 5) hB hb2 (bs' := bs ++ Lib.strCells s) (by simpa [Lib.strCells_length] using hown') (by decide)
  · exact (hb1.grown hgrow (by have := hb1.size; omega) (fun k hk => (hown.lt k hk).1)).setCell (p := ⟨b, 1, none⟩) hB _
end Go.Proofs.YtddlohbhchjjhaaGreatDoor

namespace Go.Proofs.YtddlohbhchjjhaaGreatDoor
open Go.RowKit

abbrev Dig := Int × Int
abbrev Bytes := List UInt8
def ofL (l : Bytes) : ByteArray := ⟨l.toArray⟩
def toL (s : ByteArray) : Bytes := s.data.toList
theorem toL_ofL (l : Bytes) : toL (ofL l) = l := rfl
theorem ofL_toL (s : ByteArray) : ofL (toL s) = s := by cases s; simp [ofL, toL]
theorem size_toL (s : ByteArray) : s.size = (toL s).length := by cases s; rfl
theorem size_ofL (l : Bytes) : (ofL l).size = l.length := rfl

/-! ### numbers -/
def encN (n : Nat) : Bytes := if n < 128 then [UInt8.ofNat n] else UInt8.ofNat (n % 128 + 128) :: encN (n / 128)
  termination_by n
  decreasing_by omega
theorem encN_small {n : Nat} (h : n < 128) : encN n = [UInt8.ofNat n] := by rw [encN, if_pos h]
theorem encN_big {n : Nat} (h : ¬ n < 128) : encN n = UInt8.ofNat (n % 128 + 128) :: encN (n / 128) := by rw [encN, if_neg h]
theorem encN_pos (n : Nat) : 0 < (encN n).length := by
  by_cases h : n < 128
  · rw [encN_small h]; simp
  · rw [encN_big h]; simp
theorem encN_len : ∀ (k n : Nat), n < 128 ^ (k + 1) → (encN n).length ≤ k + 1
  | 0, n, h => by rw [encN_small (by simpa using h)]; simp
  | k + 1, n, h => by
    by_cases hs : n < 128
    · rw [encN_small hs]; simp
    · rw [encN_big hs, List.length_cons]
      have := encN_len k (n / 128) (by rw [Nat.div_lt_iff_lt_mul (by omega)]; rw [Nat.pow_succ] at h; omega)
      omega
theorem toNat_ofNat8 {n : Nat} (h : n < 256) : (UInt8.ofNat n).toNat = n := by simp [UInt8.toNat_ofNat']; omega

/-- reading a number, f digits at most, after i digits that gave n, the next digit's weight u -/
def gi : Nat → Nat → Nat → Nat → Bytes → Nat × Nat × Int
  | 0, _, _, _, _ => (0, 0, 13)
  | _ + 1, _, _, _, [] => (0, 0, 12)
  | f + 1, i, n, u, d :: r =>
    if d.toNat < 128 then (if (d.toNat = 0 ∧ 0 < i) ∨ 1099511627776 < n + d.toNat * u then (0, 0, 13) else (n + d.toNat * u, i + 1, 0))
    else gi f (i + 1) (n + (d.toNat - 128) * u) (u * 128) r
def getI (l : Bytes) : Nat × Nat × Int := gi 6 0 0 1 l

theorem gi_enc : ∀ (f i n u m : Nat) (r : Bytes), (encN m).length ≤ f → n + m * u ≤ 1099511627776 → (i = 0 ∨ 0 < m) → gi f i n u (encN m ++ r) = (n + m * u, i + (encN m).length, 0)
  | 0, i, n, u, m, r, h, _, _ => by have := encN_pos m; omega
  | f + 1, i, n, u, m, r, h, hm, hi => by
    by_cases hs : m < 128
    · have e := toNat_ofNat8 (n := m) (by omega)
      rw [encN_small hs, List.cons_append, gi, e, if_pos hs, if_neg (by omega)]; rfl
    · have e := toNat_ofNat8 (n := m % 128 + 128) (by omega)
      rw [encN_big hs] at h ⊢
      have e1 : n + (m % 128 + 128 - 128) * u + m / 128 * (u * 128) = n + m * u := by
        have : m * u = (128 * (m / 128) + m % 128) * u := by rw [Nat.div_add_mod]
        rw [this, Nat.add_sub_cancel, Nat.add_mul, Nat.mul_comm u 128, ← Nat.mul_assoc, Nat.mul_comm (m / 128) 128]; omega
      rw [List.cons_append, gi, e, if_neg (by omega), gi_enc f (i + 1) _ _ (m / 128) r (by simp at h; omega) (by omega) (.inr (by omega)), e1]
      simp only [List.length_cons, Prod.mk.injEq, and_true, true_and]; omega
theorem gi_inv : ∀ (f i n u : Nat) (l : Bytes) (x k : Nat), gi f i n u l = (x, k, 0) → ∃ m r, l = encN m ++ r ∧ k = i + (encN m).length ∧ x = n + m * u ∧ (i = 0 ∨ 0 < m) ∧ x ≤ 1099511627776
  | 0, i, n, u, l, x, k, h => by simp [gi] at h
  | f + 1, i, n, u, [], x, k, h => by simp [gi] at h
  | f + 1, i, n, u, d :: r, x, k, h => by
    rw [gi] at h
    by_cases hs : d.toNat < 128
    · rw [if_pos hs] at h
      by_cases hc : (d.toNat = 0 ∧ 0 < i) ∨ 1099511627776 < n + d.toNat * u
      · rw [if_pos hc] at h; simp at h
      · rw [if_neg hc] at h
        simp only [Prod.mk.injEq, and_true] at h
        refine ⟨d.toNat, r, ?_, ?_, h.1.symm, by omega, by omega⟩
        · rw [encN_small hs]; simp
        · rw [encN_small hs]; simp; omega
    · rw [if_neg hs] at h
      obtain ⟨m, r', rfl, hk, hx, hm, hM⟩ := gi_inv f (i + 1) _ _ r x k h
      have hm' : 0 < m := by omega
      have hd : d.toNat < 256 := d.toNat_lt
      have hb : ¬ (d.toNat - 128 + 128 * m) < 128 := by omega
      have e1 : (d.toNat - 128 + 128 * m) % 128 + 128 = d.toNat := by omega
      have e2 : (d.toNat - 128 + 128 * m) / 128 = m := by omega
      refine ⟨d.toNat - 128 + 128 * m, r', ?_, ?_, ?_, by omega, hM⟩
      · rw [encN_big hb, e1, e2]; simp
      · rw [encN_big hb, e1, e2]; simp; omega
      · rw [hx, Nat.add_mul, Nat.mul_comm u 128, ← Nat.mul_assoc, Nat.mul_comm m 128]; omega
theorem getI_enc {m : Nat} (h : m ≤ 1099511627776) (r : Bytes) : getI (encN m ++ r) = (m, (encN m).length, 0) := by
  have hl : (encN m).length ≤ 6 := encN_len 5 m (by omega)
  have := gi_enc 6 0 0 1 m r hl (by omega) (.inl rfl)
  unfold getI; rw [this]; simp
theorem getI_inv {l : Bytes} {x k : Nat} (h : getI l = (x, k, 0)) : ∃ r, l = encN x ++ r ∧ k = (encN x).length ∧ x ≤ 1099511627776 := by
  obtain ⟨m, r, h1, h2, h3, _, h5⟩ := gi_inv 6 0 0 1 l x k h
  have : x = m := by omega
  subst this
  exact ⟨r, h1, by omega, h5⟩
theorem gi_le : ∀ (f i n u : Nat) (l : Bytes), (gi f i n u l).2.1 ≤ i + l.length
  | 0, i, n, u, l => by simp [gi]
  | f + 1, i, n, u, [] => by simp [gi]
  | f + 1, i, n, u, d :: r => by
    rw [gi]
    split
    · split <;> simp
    · have := gi_le f (i + 1) (n + (d.toNat - 128) * u) (u * 128) r; simp; omega
theorem getI_le (l : Bytes) : (getI l).2.1 ≤ l.length := by have := gi_le 6 0 0 1 l; unfold getI; omega
theorem gi_max : ∀ (f i n u : Nat) (l : Bytes), (gi f i n u l).1 ≤ 1099511627776
  | 0, i, n, u, l => by simp [gi]
  | f + 1, i, n, u, [] => by simp [gi]
  | f + 1, i, n, u, d :: r => by
    rw [gi]
    split
    · split
      · simp
      · simp; omega
    · exact gi_max f _ _ _ r
theorem getI_max (l : Bytes) : (getI l).1 ≤ 1099511627776 := gi_max 6 0 0 1 l

/-! ### texts -/
def getT (l : Bytes) : Bytes × Nat × Int :=
  if (getI l).2.2 ≠ 0 then ([], 0, (getI l).2.2) else if 65536 < (getI l).1 then ([], 0, 13) else if l.length < (getI l).2.1 + (getI l).1 then ([], 0, 12)
  else ((l.drop (getI l).2.1).take (getI l).1, (getI l).2.1 + (getI l).1, 0)
def encT (t : Bytes) : Bytes := encN t.length ++ t
theorem getT_enc {t : Bytes} (h : t.length ≤ 65536) (r : Bytes) : getT (encT t ++ r) = (t, (encT t).length, 0) := by
  have := getI_enc (m := t.length) (by omega) (t ++ r)
  unfold getT encT
  rw [List.append_assoc, this]
  simp only [ne_eq, not_true, if_false]
  rw [if_neg (by omega), if_neg (by simp)]
  simp
theorem getT_inv {l t : Bytes} {k : Nat} (h : getT l = (t, k, 0)) : ∃ r, l = encT t ++ r ∧ k = (encT t).length ∧ t.length ≤ 65536 := by
  unfold getT at h
  by_cases h1 : (getI l).2.2 ≠ 0
  · rw [if_pos h1] at h; simp at h; exact absurd h.2.2 h1
  · rw [if_neg h1] at h
    by_cases h2 : 65536 < (getI l).1
    · rw [if_pos h2] at h; simp at h
    · rw [if_neg h2] at h
      by_cases h3 : l.length < (getI l).2.1 + (getI l).1
      · rw [if_pos h3] at h; simp at h
      · rw [if_neg h3] at h
        generalize hg : getI l = g at *
        obtain ⟨n, m, e⟩ := g
        have he : e = 0 := by simpa using h1
        subst he
        obtain ⟨r, rfl, rfl, _⟩ := getI_inv hg
        simp only [Prod.mk.injEq, and_true] at h h2 h3
        simp only [List.drop_left, List.length_append] at h h3
        have hl : (r.take n).length = n := by rw [List.length_take]; omega
        rw [← h.1, ← h.2]
        refine ⟨r.drop n, ?_, ?_, by omega⟩
        · unfold encT; rw [hl, List.append_assoc, List.take_append_drop]
        · unfold encT; rw [hl, List.length_append, hl]
theorem getT_le (l : Bytes) : (getT l).2.1 ≤ l.length := by
  unfold getT
  split
  · simp
  · split
    · simp
    · split
      · simp
      · simp; omega

/-! ### digests -/
def be : Nat → Nat → Bytes
  | 0, _ => []
  | k + 1, n => UInt8.ofNat (n / 256 ^ k % 256) :: be k n
def valF (a : Nat) (l : Bytes) : Nat := l.foldl (fun a b => a * 256 + b.toNat) a
theorem be_len : ∀ (k n : Nat), (be k n).length = k
  | 0, _ => rfl
  | k + 1, n => by simp [be, be_len k n]
theorem valF_be : ∀ (k n a : Nat), valF a (be k n) = a * 256 ^ k + n % 256 ^ k
  | 0, n, a => by simp [valF, be]; omega
  | k + 1, n, a => by
    have e := toNat_ofNat8 (n := n / 256 ^ k % 256) (by omega)
    show valF (a * 256 + (UInt8.ofNat (n / 256 ^ k % 256)).toNat) (be k n) = _
    rw [valF_be k n, e, Nat.pow_succ, Nat.mod_mul, Nat.add_mul, Nat.mul_assoc, Nat.mul_comm 256 (256 ^ k), Nat.mul_comm (n / 256 ^ k % 256)]; omega
theorem valF_lt : ∀ (l : Bytes) (a : Nat), valF a l < (a + 1) * 256 ^ l.length
  | [], a => by simp [valF]
  | d :: l, a => by
    show valF (a * 256 + d.toNat) l < _
    have h := valF_lt l (a * 256 + d.toNat)
    have hd : d.toNat < 256 := d.toNat_lt
    refine Nat.lt_of_lt_of_le h ?_
    rw [List.length_cons, Nat.pow_succ, Nat.mul_comm (256 ^ l.length) 256, ← Nat.mul_assoc]
    exact Nat.mul_le_mul_right _ (by omega)
theorem valF_split : ∀ (l : Bytes) (a : Nat), valF a l = a * 256 ^ l.length + valF 0 l
  | [], a => by simp [valF]
  | d :: l, a => by
    show valF (a * 256 + d.toNat) l = a * 256 ^ (l.length + 1) + valF (0 * 256 + d.toNat) l
    rw [Nat.zero_mul, Nat.zero_add, valF_split l (a * 256 + d.toNat), valF_split l d.toNat, Nat.pow_succ, Nat.add_mul, Nat.mul_comm (256 ^ l.length) 256, ← Nat.mul_assoc]; omega
theorem be_val : ∀ (l : Bytes) (c : Nat), be l.length (c * 256 ^ l.length + valF 0 l) = l
  | [], c => rfl
  | d :: l, c => by
    have hd : d.toNat < 256 := d.toNat_lt
    have hv : valF 0 l < 256 ^ l.length := by have := valF_lt l 0; simpa using this
    have e : c * 256 ^ (l.length + 1) + valF 0 (d :: l) = (c * 256 + d.toNat) * 256 ^ l.length + valF 0 l := by
      show _ + valF (0 * 256 + d.toNat) l = _
      rw [Nat.zero_mul, Nat.zero_add, valF_split l d.toNat, Nat.pow_succ, Nat.add_mul, Nat.mul_comm (256 ^ l.length) 256, ← Nat.mul_assoc]; omega
    have hpos : 0 < 256 ^ l.length := Nat.pow_pos (by omega)
    show UInt8.ofNat ((c * 256 ^ (l.length + 1) + valF 0 (d :: l)) / 256 ^ l.length % 256) :: be l.length (c * 256 ^ (l.length + 1) + valF 0 (d :: l)) = _
    rw [e, be_val l (c * 256 + d.toNat)]
    congr 1
    rw [Nat.mul_comm (c * 256 + d.toNat), Nat.mul_add_div hpos, Nat.div_eq_of_lt hv]
    have : (c * 256 + d.toNat + 0) % 256 = d.toNat := by omega
    rw [this]; simp
def WfD (d : Dig) : Prop := 0 ≤ d.1 ∧ d.1 < 18446744073709551616 ∧ 0 ≤ d.2 ∧ d.2 < 18446744073709551616
def digB (d : Dig) : Bytes := be 8 d.1.toNat ++ be 8 d.2.toNat
def dg (l : Bytes) : Dig := ((valF 0 (l.take 8) : Int), (valF 0 ((l.drop 8).take 8) : Int))
theorem digB_len (d : Dig) : (digB d).length = 16 := by simp [digB, be_len]
theorem dg_digB {d : Dig} (h : WfD d) (r : Bytes) : dg (digB d ++ r) = d := by
  have e1 : ((digB d ++ r).take 8) = be 8 d.1.toNat := by
    unfold digB; rw [List.append_assoc, List.take_left' (be_len _ _)]
  have e2 : (((digB d ++ r).drop 8).take 8) = be 8 d.2.toNat := by
    unfold digB; rw [List.append_assoc, List.drop_left' (be_len _ _), List.take_left' (be_len _ _)]
  unfold dg
  rw [e1, e2, valF_be, valF_be]
  obtain ⟨a, b⟩ := d
  obtain ⟨h1, h2, h3, h4⟩ := h
  simp only at h1 h2 h3 h4 ⊢
  refine Prod.ext ?_ ?_
  · show ((0 * 256 ^ 8 + a.toNat % 256 ^ 8 : Nat) : Int) = a
    omega
  · show ((0 * 256 ^ 8 + b.toNat % 256 ^ 8 : Nat) : Int) = b
    omega
theorem digB_dg {l : Bytes} (h : 16 ≤ l.length) : digB (dg l) = l.take 16 := by
  have h1 : (l.take 8).length = 8 := by rw [List.length_take]; omega
  have h2 : ((l.drop 8).take 8).length = 8 := by rw [List.length_take, List.length_drop]; omega
  have e1 := be_val (l.take 8) 0
  have e2 := be_val ((l.drop 8).take 8) 0
  rw [h1] at e1
  rw [h2] at e2
  simp only [Nat.zero_mul, Nat.zero_add] at e1 e2
  unfold digB dg
  simp only [Int.toNat_natCast]
  rw [e1, e2, ← List.take_add]
theorem wf_dg (l : Bytes) : WfD (dg l) := by
  have h1 := valF_lt (l.take 8) 0
  have h2 := valF_lt ((l.drop 8).take 8) 0
  have l1 : (l.take 8).length ≤ 8 := by rw [List.length_take]; omega
  have l2 : ((l.drop 8).take 8).length ≤ 8 := by rw [List.length_take]; omega
  have p1 : 256 ^ (l.take 8).length ≤ 256 ^ 8 := Nat.pow_le_pow_right (by omega) l1
  have p2 : 256 ^ ((l.drop 8).take 8).length ≤ 256 ^ 8 := Nat.pow_le_pow_right (by omega) l2
  refine ⟨?_, ?_, ?_, ?_⟩ <;> simp only [dg] <;> omega

end Go.Proofs.YtddlohbhchjjhaaGreatDoor
