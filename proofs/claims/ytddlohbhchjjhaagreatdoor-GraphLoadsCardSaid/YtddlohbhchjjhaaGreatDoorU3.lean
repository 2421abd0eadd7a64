/-
  Lemmas: graph.index: targets by their labels; the first one with a label counts. buildfile's names, and Check on any rules. append onto a slice that is the call's own, or empty without capacity. A slice from which elements are taken in front and to which elements are appended: it owns its row from its own offset on. Over any program. As in Range2; moreover the iterator knows where memory ends when it is entered (hz), and what a round keeps (Kp) has to be shown of the loop's own record only where that record lies. For graph.reached's walk: laws inside a fence (append onto a queue, a store into a map), and what the iterator and its rounds leave alone. The words of a text, in plain Lean, and buildfile.words' iterator. As in Range3; moreover the code that takes an element may make memory of its own (a variable that is boxed): the world changes ahead of the round. The search with numbers of steps, as graph.reached makes it: what it has handed over (pre) and its queue (todo). Plain Lean; no program in sight. A scope (a function that holds a label) inside a fence, where no goto is taken. Over any program.
-/
import Derived.Test.YtddlohbhchjjhaaGreatDoorProg
import Derived.ArgAppend
import Derived.OwnWalkIn
import Derived.Scope
import Derived.ControlIn
import Derived.Test.YtddlohbhchjjhaaGreatDoorU2

namespace Go.Proofs.YtddlohbhchjjhaaGreatDoor
open Go.RowKit Go.Maps



def idxG (ts : List Tg) : ByteArray → Option Value := fun s => (findT ts s).map tgV
theorem idxG_skip {ts : List Tg} {t : Tg} (h : isT ts t.lab = true) : idxG (ts ++ [t]) = idxG ts := by
  funext s
  unfold idxG
  rw [findT_snoc]
  cases hf : findT ts s with
  | some x => rfl
  | none =>
    by_cases e : t.lab = s
    · subst e; unfold isT at h; rw [hf] at h; cases h
    · simp [e]
theorem idxG_put {ts : List Tg} {t : Tg} (h : isT ts t.lab = false) : idxG (ts ++ [t]) = upd (idxG ts) t.lab (tgV t) := by
  funext s
  unfold idxG upd
  rw [findT_snoc]
  by_cases e : s = t.lab
  · subst e
    unfold isT at h
    cases hf : findT ts t.lab with
    | some x => rw [hf] at h; cases h
    | none => simp
  · cases hf : findT ts s with
    | some x => simp [e, hf]
    | none => simp [e, hf, Ne.symm e]
theorem idxG_some (ts : List Tg) (s : ByteArray) : (idxG ts s).isSome = isT ts s := by
  unfold idxG isT; simp
theorem Sl.tg {w : World} {B n k : Nat} {A : Option Addr} {ts : List Tg} (h : Sl w B 4 A n (flat tgC ts)) (hk : k < n) :
    ∃ b off t, A = some ⟨b, off, none⟩ ∧ b < B ∧ ts[k]? = some t ∧ w.cell? ⟨b, off + k * 4, none⟩ = some (.string t.lab) ∧ w.cell? ⟨b, off + k * 4 + 1, none⟩ = some (.int .i64 t.kind) ∧ w.cell? ⟨b, off + k * 4 + 2, none⟩ = some (.slice t.dA t.dn t.dc) ∧ w.cell? ⟨b, off + k * 4 + 3, none⟩ = some (.slice t.vA t.vn t.vc) := by
  obtain ⟨b, off, t, e, hb, ht, hc⟩ := h.at_ tgC_len (by omega) hk
  exact ⟨b, off, t, e, hb, ht, hc 0 _ rfl, hc 1 _ rfl, hc 2 _ rfl, hc 3 _ rfl⟩
def zeroT : Value := .agg #[.string ⟨#[]⟩, .int .i64 0, .slice none 0 0, .slice none 0 0]

set_option maxRecDepth 100000 in
set_option maxHeartbeats 2000000 in
theorem index_any (A : Option Addr) (n c B : Nat) (ts : List Tg) (w : World) (h0 : Sl w B 4 A n (flat tgC ts)) (hB : B ≤ w.heap.size) (hn : n ≤ 1000000) (hls : ∀ t ∈ ts, t.lab.size ≤ maxLen) :
    Calls Tryz.prog 53 #[.slice A n c] w fun e w' => e = .returned (.map (some w.heap.size)) ∧ Rm w' Tryz.prog 9 w.heap.size n (idxG ts) ∧ Below w.heap.size w w' := by
  have HL := Lib.hid (h0.len tgC_len (by omega))
  have H0 := Lib.hid h0; have HLS := Lib.hid hls
  clear h0 hls
  have hmm := @run_makeMap Tryz.prog
  have HM0 : Hid (Rm (w.alloc (.map #[] 0)) Tryz.prog 9 w.heap.size 0 (idxG (ts.take 0))) := Rm.made w Tryz.prog 9
  have HB0 : Hid (Below w.heap.size w (w.alloc (.map #[] 0))) := (Below.refl _ w).alloc (Nat.le_refl _) _
  go_enter Tryz.func53, Tryz.ntmps53
  go_wp2
  go_loopw [11] (fun i wr => ∃ k : Nat, k ≤ n ∧ i = .int .i64 k ∧ Hid (Rm wr Tryz.prog 9 w.heap.size k (idxG (ts.take k))) ∧ Hid (Below w.heap.size w wr) ∧ w.heap.size < wr.heap.size) (fun i _ => n - (intOf i).toNat)
  case atStart => exact ⟨0, Nat.zero_le _, rfl, HM0.out, HB0.out, by simp⟩
  case round =>
    obtain ⟨k, hk, rfl, hM, hBel, hwz⟩ := hrel
    by_cases hlt : k < n
    · obtain ⟨b, off, t, rfl, hbB, ht, y0, y1, y2, y3⟩ := (H0.out.below hBel.out hB).tg hlt
      have HTK := Lib.hid (take_snoc ht)
      have HTS := Lib.hid (HLS.out t (List.mem_of_getElem? ht))
      have hlz : (k : Int) < (n : Int) := by omega
      obtain ⟨lab, kind, dA, dn, dc, deps, vA, vn, vc, vis⟩ := t
      simp only at y0 y1 y2 y3 HTS
      have hlk := (hM.out.alloc (.cells #[.string lab, .int .i64 kind, .slice dA dn dc, .slice vA vn vc] 35)).look_ok Tryz.underlying9 Tryz.underlying73 (Tryz.zeroValue35 _) HTS.out
      clear ht
      rw [idxG_some] at hlk
      have HK0 := Lib.hid (hM.out.alloc (.cells #[.string lab, .int .i64 kind, .slice dA dn dc, .slice vA vn vc] 35))
      have hk0 : Bk (wr.alloc (.cells #[.string lab, .int .i64 kind, .slice dA dn dc, .slice vA vn vc] 35)) wr.heap.size 35 #[.string lab, .int .i64 kind, .slice dA dn dc, .slice vA vn vc] := Bk.new wr _ _
      cases hs : isT (ts.take k) lab with
      | true =>
        obtain ⟨x, hx⟩ : ∃ x, findT (ts.take k) lab = some x := Option.isSome_iff_exists.1 hs
        have hgx : idxG (ts.take k) lab = some (tgV x) := by unfold idxG; rw [hx]; rfl
        have HST : Hid (idxG (ts.take (k + 1)) = idxG (ts.take k)) := by show _ = _; rw [HTK.out]; exact idxG_skip hs
        rw [hgx, hs] at hlk
        obtain ⟨xlab, xkind, xdA, xdn, xdc, xdeps, xvA, xvn, xvc, xvis⟩ := x
        simp only [Option.getD_some, tgV] at hlk
        clear hx hgx hs hk0
        have HM2 := Lib.hid (HK0.out.alloc (.cells #[.string xlab, .int .i64 xkind, .slice xdA xdn xdc, .slice xvA xvn xvc] 35))
        have HB2 : Hid (Below w.heap.size w ((wr.alloc (.cells #[.string lab, .int .i64 kind, .slice dA dn dc, .slice vA vn vc] 35)).alloc (.cells #[.string xlab, .int .i64 xkind, .slice xdA xdn xdc, .slice xvA xvn xvc] 35))) := (hBel.out.alloc (by omega) _).alloc (by simp; omega) _
        go_wp2
        go_roundw
        case rel => exact ⟨k + 1, by omega, by go_num, by show Rm _ _ _ _ _ _; rw [HST.out]; exact HM2.out.more (by omega), HB2.out, by simp; omega⟩
        case measure => simp [intOf]; omega
      | false =>
        have hgx : idxG (ts.take k) lab = none := by
          unfold idxG; unfold isT at hs
          cases hf : findT (ts.take k) lab with
          | none => rfl
          | some x => rw [hf] at hs; cases hs
        have HST : Hid (idxG (ts.take (k + 1)) = upd (idxG (ts.take k)) lab (.agg #[.string lab, .int .i64 kind, .slice dA dn dc, .slice vA vn vc])) := by show _ = _; rw [HTK.out]; exact idxG_put hs
        rw [hgx, hs] at hlk
        simp only [Option.getD_none] at hlk
        clear hgx hs
        have HM2 := Lib.hid (HK0.out.alloc (.cells #[.string ⟨#[]⟩, .int .i64 0, .slice none 0 0, .slice none 0 0] 35))
        have hk2 := hk0.alloc (.cells #[.string ⟨#[]⟩, .int .i64 0, .slice none 0 0, .slice none 0 0] 35)
        have HB2 : Hid (Below w.heap.size w ((wr.alloc (.cells #[.string lab, .int .i64 kind, .slice dA dn dc, .slice vA vn vc] 35)).alloc (.cells #[.string ⟨#[]⟩, .int .i64 0, .slice none 0 0, .slice none 0 0] 35))) := (hBel.out.alloc (by omega) _).alloc (by simp; omega) _
        have u0 := hk2.cell 0; have u1 := hk2.cell 1; have u2 := hk2.cell 2; have u3 := hk2.cell 3
        simp at u0 u1 u2 u3
        clear hk0 hk2
        go_wp2_with (at_mapUpdate; refine halt_ ?_)
        refine unhalt ?_
        refine wpList_put_rm rfl _ _ _ 73 rfl 9 35 Tryz.underlying9 Tryz.underlying73 w.heap.size k _ rfl HM2.out (by unfold maxLen; omega) lab HTS.out _ rfl rfl ?_
        intro w3 hM3 hg3
        have HM3 := Lib.hid hM3
        have HB3 : Hid (Below w.heap.size w w3) := HB2.out.grown hg3 (by simp; omega) (fun k e => by cases e; omega)
        have hz3 : w.heap.size < w3.heap.size := by have := hg3.size; simp at this; omega
        clear hM3 hg3
        go_wp2
        go_roundw
        case rel => exact ⟨k + 1, by omega, by go_num, by show Rm _ _ _ _ _ _; rw [HST.out]; exact HM3.out, HB3.out, hz3⟩
        case measure => simp [intOf]; omega
    · have hlz : ¬ (k : Int) < (n : Int) := by omega
      have hM2 := hM.out
      rw [List.take_of_length_le (by rw [HL.out]; omega)] at hM2
      have HM2 := Lib.hid (hM2.more hk)
      clear hM2 hM
      go_wp2
      go_ret
      exact ⟨rfl, HM2.out, hBel.out⟩
end Go.Proofs.YtddlohbhchjjhaaGreatDoor

namespace Go.Proofs.YtddlohbhchjjhaaGreatDoor
open Go.RowKit Go.Shelf

/-- target names, and those that are not reserved -/
def namT (s : ByteArray) : Bool := labB s && !(decide (0 ≤ Lib.indexByte s.data.toList 47))
def freB (s : ByteArray) : Bool := namT s && !resB s
set_option maxHeartbeats 400000 in
theorem targetName_any (s : ByteArray) (w : World) (hs : s.size ≤ maxLen) : Calls Tryz.prog 142 #[.string s] w fun e w' => e = .returned (.bool (namT s)) ∧ Below w.heap.size w w' := by
  cases hl : labB s with
  | false =>
    have HF : Hid (namT s = false) := by show _ = _; unfold namT; rw [hl]; rfl
    have HL := Lib.hid hl
    clear hl
    go_enter Tryz.func142, Tryz.ntmps142
    go_wp2_with (go_at_call 79; refine (label_any _ _ hs).mono ?_; rintro e w1 ⟨rfl, hb⟩; rw [HL.out])
    go_ret
    exact ⟨ret_bool HF.out.symm, hb⟩
  | true =>
    cases hi : decide (0 ≤ Lib.indexByte s.data.toList 47) with
    | false =>
      have HF : Hid (namT s = true) := by show _ = _; unfold namT; rw [hl, hi]; rfl
      have HL := Lib.hid hl; have HI := Lib.hid hi
      clear hl hi
      go_enter Tryz.func142, Tryz.ntmps142
      go_wp2_with (first
        | (go_at_call 79; refine (label_any _ _ hs).mono ?_; rintro e w1 ⟨rfl, hb⟩; rw [HL.out])
        | (go_at_call 191; refine (Tryz.strings_Contains_one _ _ _).mono ?_; rintro e w1 ⟨rfl, rfl⟩; rw [HI.out]))
      go_ret
      exact ⟨ret_bool HF.out.symm, hb⟩
    | true =>
      have HF : Hid (namT s = false) := by show _ = _; unfold namT; rw [hl, hi]; rfl
      have HL := Lib.hid hl; have HI := Lib.hid hi
      clear hl hi
      go_enter Tryz.func142, Tryz.ntmps142
      go_wp2_with (first
        | (go_at_call 79; refine (label_any _ _ hs).mono ?_; rintro e w1 ⟨rfl, hb⟩; rw [HL.out])
        | (go_at_call 191; refine (Tryz.strings_Contains_one _ _ _).mono ?_; rintro e w1 ⟨rfl, rfl⟩; rw [HI.out]))
      go_ret
      exact ⟨ret_bool HF.out.symm, hb⟩
set_option maxHeartbeats 400000 in
theorem freeName_any (s : ByteArray) (w : World) (hs : s.size ≤ maxLen) : Calls Tryz.prog 163 #[.string s] w fun e w' => e = .returned (.bool (freB s)) ∧ Below w.heap.size w w' := by
  cases hl : namT s with
  | false =>
    have HF : Hid (freB s = false) := by show _ = _; unfold freB; rw [hl]; rfl
    have HL := Lib.hid hl
    clear hl
    go_enter Tryz.func163, Tryz.ntmps163
    go_wp2_with (go_at_call 142; refine (targetName_any _ _ hs).mono ?_; rintro e w1 ⟨rfl, hb⟩; rw [HL.out])
    go_ret
    exact ⟨ret_bool HF.out.symm, hb⟩
  | true =>
    cases hr : resB s with
    | false =>
      have HF : Hid (freB s = true) := by show _ = _; unfold freB; rw [hl, hr]; rfl
      have HL := Lib.hid hl; have HR := Lib.hid hr
      clear hl hr
      go_enter Tryz.func163, Tryz.ntmps163
      go_wp2_with (first
        | (go_at_call 142; refine (targetName_any _ _ hs).mono ?_; rintro e w1 ⟨rfl, hb⟩; rw [HL.out])
        | (go_at_call 216; refine (reserved_any _ _).mono ?_; rintro e w2 ⟨rfl, rfl⟩; rw [HR.out]))
      go_ret
      exact ⟨ret_bool HF.out.symm, hb⟩
    | true =>
      have HF : Hid (freB s = false) := by show _ = _; unfold freB; rw [hl, hr]; rfl
      have HL := Lib.hid hl; have HR := Lib.hid hr
      clear hl hr
      go_enter Tryz.func163, Tryz.ntmps163
      go_wp2_with (first
        | (go_at_call 142; refine (targetName_any _ _ hs).mono ?_; rintro e w1 ⟨rfl, hb⟩; rw [HL.out])
        | (go_at_call 216; refine (reserved_any _ _).mono ?_; rintro e w2 ⟨rfl, rfl⟩; rw [HR.out]))
      go_ret
      exact ⟨ret_bool HF.out.symm, hb⟩
set_option maxRecDepth 100000 in
set_option maxHeartbeats 2000000 in
theorem checkDeps_any (A : Option Addr) (n c B : Nat) (l : List ByteArray) (w : World) (h : Sl w B 1 A n (strs l)) (hB : B ≤ w.heap.size) (hn : n ≤ c) (hc : c ≤ maxLen) (hls : ∀ x ∈ l, x.size ≤ maxLen) :
    Calls Tryz.prog 164 #[.slice A n c, .func (.func 165) #[] #[]] w fun e w' => e = .returned (.int .i64 (elE frlB [] l)) ∧ Below w.heap.size w w' := by
  have hnm : n ≤ 9223372036854775807 := by unfold maxLen at hc; omega
  have H := Lib.hid h; have HLS := Lib.hid hls
  have HLL : Hid (l.length = n) := by have := h.1; rw [strs_len] at this; show _ = _; omega
  clear h hls
  go_enter Tryz.func164, Tryz.ntmps164
  go_wp2
  go_loopw [9] (fun i wr => ∃ k : Nat, k ≤ n ∧ i = .int .i64 k ∧ Hid (elE frlB [] l = elE frlB (l.take k) (l.drop k)) ∧ Hid (Below w.heap.size w wr)) (fun i _ => n - (intOf i).toNat)
  case atStart => exact ⟨0, Nat.zero_le _, rfl, rfl, Below.refl _ _⟩
  case round =>
    obtain ⟨k, hk, rfl, hE, hBel⟩ := hrel
    by_cases hlt : k < n
    · obtain ⟨b, off, x, rfl, hb, hx, y0⟩ := (H.out.below hBel.out hB).str_at hlt
      have hxs := HLS.out x (List.mem_of_getElem? hx)
      have HT := Lib.hid (elE_take (ok := frlB) hx)
      have hlz : (k : Int) < (n : Int) := by omega
      clear hx
      cases hv : frlB x with
      | false =>
        have hF : Hid (elE frlB [] l = 6) := by show _ = _; rw [hE.out, HT.out, hv]; rfl
        have HV := Lib.hid hv
        clear hv
        go_wp2_with (go_at_call 165; refine (freeLabel_any _ _ hxs).mono ?_; rintro e w1 ⟨rfl, hb1⟩; rw [HV.out])
        go_ret
        exact ⟨ret_int hF.out.symm, hBel.out.trans (hb1.mono hBel.out.size)⟩
      | true =>
        have HV := Lib.hid hv
        have HT2 : Hid (elE frlB (l.take k) (l.drop k) = if memB (l.take k) x then 7 else elE frlB (l.take (k + 1)) (l.drop (k + 1))) := by show _ = _; rw [HT.out, hv]; rfl
        clear hv HT
        go_wp2_with (go_at_call 165; refine (freeLabel_any _ _ hxs).mono ?_; rintro e w1 ⟨rfl, hb1⟩; rw [HV.out]; refine halt_ ?_)
        refine unhalt ?_
        have HB1 : Hid (Below w.heap.size w w1) := hBel.out.trans (hb1.mono hBel.out.size)
        clear hb1 hBel y0
        have hsl : ∀ w' : World, (Instr.sliceAt 33 (.slice (some ⟨b, off, none⟩) n c) none (some (.int .i64 k)) none).run Tryz.prog w' = .ok (.slice (some ⟨b, off, none⟩) k c) w' := fun w' => by
          obtain ⟨i0, hi0, _⟩ := info_parts infoStr'
          exact run_slice_to 33 i0 Tryz.underlying33 hi0 _ n c k (by omega) w'
        have HSL := Lib.hid (contains_any (some ⟨b, off, none⟩) n k c B l x w1 (H.out.below HB1.out hB) hk hnm)
        cases hm : memB (l.take k) x with
        | true =>
          have hF : Hid (elE frlB [] l = 7) := by show _ = _; rw [hE.out, HT2.out, hm]; rfl
          rw [hm] at HSL
          clear hm
          go_wp2_with (go_at_call 31; refine HSL.out.mono ?_; rintro e w2 ⟨rfl, rfl⟩)
          go_ret
          exact ⟨ret_int hF.out.symm, HB1.out⟩
        | false =>
          have hF : Hid (elE frlB [] l = elE frlB (l.take (k + 1)) (l.drop (k + 1))) := by show _ = _; rw [hE.out, HT2.out, hm]; rfl
          rw [hm] at HSL
          clear hm
          go_wp2_with (go_at_call 31; refine HSL.out.mono ?_; rintro e w2 ⟨rfl, rfl⟩)
          go_roundw
          case rel => exact ⟨k + 1, hlt, by go_num, hF.out, HB1.out⟩
          case measure => simp [intOf]; omega
    · have hlz : ¬ (k : Int) < (n : Int) := by omega
      have hF : Hid (elE frlB [] l = 0) := by
        show _ = _
        rw [hE.out, List.drop_of_length_le (by rw [HLL.out]; omega)]; rfl
      go_wp2
      go_ret
      exact ⟨ret_int hF.out.symm, hBel.out⟩

/-- a rule's cells: a target's fields, the kind first -/
def rlC (t : Tg) : List Value := [.int .i64 t.kind, .string t.lab, .slice t.dA t.dn t.dc, .slice t.vA t.vn t.vc]
def rlV (t : Tg) : Value := .agg #[.int .i64 t.kind, .string t.lab, .slice t.dA t.dn t.dc, .slice t.vA t.vn t.vc]
theorem rlC_len (t : Tg) : (rlC t).length = 4 := rfl
theorem Sl.rl {w : World} {B n k : Nat} {A : Option Addr} {ts : List Tg} (h : Sl w B 4 A n (flat rlC ts)) (hk : k < n) :
    ∃ b off t, A = some ⟨b, off, none⟩ ∧ b < B ∧ ts[k]? = some t ∧ w.cell? ⟨b, off + k * 4, none⟩ = some (.int .i64 t.kind) ∧ w.cell? ⟨b, off + k * 4 + 1, none⟩ = some (.string t.lab) ∧ w.cell? ⟨b, off + k * 4 + 2, none⟩ = some (.slice t.dA t.dn t.dc) ∧ w.cell? ⟨b, off + k * 4 + 3, none⟩ = some (.slice t.vA t.vn t.vc) := by
  obtain ⟨b, off, t, e, hb, ht, hc⟩ := h.at_ rlC_len (by omega) hk
  exact ⟨b, off, t, e, hb, ht, hc 0 _ rfl, hc 1 _ rfl, hc 2 _ rfl, hc 3 _ rfl⟩
/-- what checkRule answers -/
def ruleE (r : Tg) : Int := if r.kind ≠ 1 ∧ r.kind ≠ 2 then 9 else if freB r.lab = false then 6 else if 20 < r.deps.length ∨ 20 < r.vis.length then 4 else if elE frlB [] r.deps ≠ 0 then elE frlB [] r.deps else elE viewB [] r.vis
/-- what Check answers -/
def chkE : List ByteArray → List Tg → Int
  | _, [] => 0
  | seen, r :: rs => if ruleE r ≠ 0 then ruleE r else if memB seen r.lab then 7 else chkE (seen ++ [r.lab]) rs
def checkE (l : List Tg) : Int := if 100 < l.length then 4 else chkE [] l
theorem chkE_take {l : List Tg} {k : Nat} {r : Tg} (h : l[k]? = some r) : chkE ((l.take k).map Tg.lab) (l.drop k) = if ruleE r ≠ 0 then ruleE r else if memB ((l.take k).map Tg.lab) r.lab then 7 else chkE ((l.take (k + 1)).map Tg.lab) (l.drop (k + 1)) := by
  have hk := List.getElem?_eq_some_iff.1 h
  have e : l.drop k = r :: l.drop (k + 1) := by rw [← hk.2, List.getElem_cons_drop]
  rw [e, take_snoc h]
  simp only [chkE, List.map_append, List.map_cons, List.map_nil]

set_option maxRecDepth 100000 in
set_option maxHeartbeats 2000000 in
theorem checkRule_g (B : Nat) (r : Tg) (w : World) (h : TgOk w B r) (hB : B ≤ w.heap.size) :
    Calls Tryz.prog 114 #[rlV r] w fun e w' => e = .returned (.int .i64 (ruleE r)) ∧ Below w.heap.size w w' := by
  have HD : Hid (r.deps.length = r.dn) := h.dlen
  have HV : Hid (r.vis.length = r.vn) := h.vlen
  obtain ⟨lab, kind, dA, dn, dc, deps, vA, vn, vc, vis⟩ := r
  have HO := Lib.hid h
  have hdc := h.dmax; have hvc := h.vmax
  have hdn := h.dle; have hvn := h.vle
  have hls := h.ls
  simp only [rlV]
  simp only at HD HV hdc hvc hdn hvn hls
  have hdm : dn ≤ 9223372036854775807 := by unfold maxLen at hdc; omega
  have hvm : vn ≤ 9223372036854775807 := by unfold maxLen at hvc; omega
  clear h
  have HB0 : Hid (Below w.heap.size w (w.alloc (.cells #[.int .i64 kind, .string lab, .slice dA dn dc, .slice vA vn vc] 60))) := (Below.refl _ w).alloc (Nat.le_refl _) _
  have hk0 : Bk (w.alloc (.cells #[.int .i64 kind, .string lab, .slice dA dn dc, .slice vA vn vc] 60)) w.heap.size 60 #[.int .i64 kind, .string lab, .slice dA dn dc, .slice vA vn vc] := Bk.new w _ _
  have HK0 := Lib.hid hk0
  have u0 := hk0.cell 0; have u1 := hk0.cell 1
  simp only [List.getElem?_toArray, List.getElem?_cons_succ, List.getElem?_cons_zero] at u0 u1
  clear hk0
  by_cases hk : kind ≠ 1 ∧ kind ≠ 2
  · have hF : Hid (ruleE ⟨lab, kind, dA, dn, dc, deps, vA, vn, vc, vis⟩ = 9) := by show _ = _; unfold ruleE; rw [if_pos hk]
    have k1 : (kind != 1) = true := by simpa using hk.1
    have k2 : (kind != 2) = true := by simpa using hk.2
    clear hk
    go_enter Tryz.func114, Tryz.ntmps114
    go_wp2_with fail
    go_ret
    exact ⟨ret_int hF.out.symm, HB0.out⟩
  · have hF0 : Hid (ruleE ⟨lab, kind, dA, dn, dc, deps, vA, vn, vc, vis⟩ = if freB lab = false then 6 else if 20 < deps.length ∨ 20 < vis.length then 4 else if elE frlB [] deps ≠ 0 then elE frlB [] deps else elE viewB [] vis) := by show _ = _; unfold ruleE; rw [if_neg hk]
    have hkk : (kind != 1) = false ∨ ((kind != 1) = true ∧ (kind != 2) = false) := by
      by_cases e : kind = 1
      · left; simp [e]
      · right; refine ⟨by simpa using e, ?_⟩
        have : kind = 2 := Classical.byContradiction fun e2 => hk ⟨e, e2⟩
        simp [this]
    clear hk
    cases hf : freB lab with
    | false =>
      have hF : Hid (ruleE ⟨lab, kind, dA, dn, dc, deps, vA, vn, vc, vis⟩ = 6) := by show _ = _; rw [hF0.out, if_pos hf]
      have HF := Lib.hid hf
      clear hf hF0
      go_enter Tryz.func114, Tryz.ntmps114
      rcases hkk with k1 | ⟨k1, k2⟩
      all_goals
        go_wp2_with (go_at_call 163; refine (freeName_any _ _ hls).mono ?_; rintro e w1 ⟨rfl, hb1⟩; rw [HF.out])
        go_ret
        exact ⟨ret_int hF.out.symm, HB0.out.trans (hb1.mono (by simp))⟩
    | true =>
      have hF1 : Hid (ruleE ⟨lab, kind, dA, dn, dc, deps, vA, vn, vc, vis⟩ = if 20 < deps.length ∨ 20 < vis.length then 4 else if elE frlB [] deps ≠ 0 then elE frlB [] deps else elE viewB [] vis) := by show _ = _; rw [hF0.out, if_neg (by rw [hf]; decide)]
      have HF := Lib.hid hf
      clear hf hF0
      go_enter Tryz.func114, Tryz.ntmps114
      rcases hkk with k1 | ⟨k1, k2⟩
      all_goals
        go_wp2_with (go_at_call 163; refine (freeName_any _ _ hls).mono ?_; rintro e w1 ⟨rfl, hb1⟩; rw [HF.out]; refine halt_ ?_)
        refine unhalt ?_
        have HK1 := Lib.hid (HK0.out.below hb1 (by simp))
        have HB1 : Hid (Below w.heap.size w w1) := HB0.out.trans (hb1.mono (by simp))
        have u2 := HK1.out.cell 2; have u3 := HK1.out.cell 3
        simp only [List.getElem?_toArray, List.getElem?_cons_succ, List.getElem?_cons_zero] at u2 u3
        clear hb1
        by_cases h20 : 20 < dn
        · have hF : Hid (ruleE ⟨lab, kind, dA, dn, dc, deps, vA, vn, vc, vis⟩ = 4) := by show _ = _; rw [hF1.out, if_pos (.inl (by rw [HD.out]; exact h20))]
          have hz : (20 : Int) < (dn : Int) := by omega
          go_wp2_with fail
          go_ret
          exact ⟨ret_int hF.out.symm, HB1.out⟩
        · have hz : ¬ (20 : Int) < (dn : Int) := by omega
          by_cases h21 : 20 < vn
          · have hF : Hid (ruleE ⟨lab, kind, dA, dn, dc, deps, vA, vn, vc, vis⟩ = 4) := by show _ = _; rw [hF1.out, if_pos (.inr (by rw [HV.out]; exact h21))]
            have hz2 : (20 : Int) < (vn : Int) := by omega
            go_wp2_with fail
            go_ret
            exact ⟨ret_int hF.out.symm, HB1.out⟩
          · have hz2 : ¬ (20 : Int) < (vn : Int) := by omega
            have hF2 : Hid (ruleE ⟨lab, kind, dA, dn, dc, deps, vA, vn, vc, vis⟩ = if elE frlB [] deps ≠ 0 then elE frlB [] deps else elE viewB [] vis) := by show _ = _; rw [hF1.out, if_neg (by rw [HD.out, HV.out]; omega)]
            clear hF1
            have HCD := Lib.hid (checkDeps_any dA dn dc B deps w1 (HO.out.d.below HB1.out hB) (Nat.le_trans hB HB1.out.size) hdn hdc HO.out.ds)
            by_cases hv : elE frlB [] deps = 0
            · have hF : Hid (ruleE ⟨lab, kind, dA, dn, dc, deps, vA, vn, vc, vis⟩ = elE viewB [] vis) := by show _ = _; rw [hF2.out, if_neg (fun h => h hv)]
              rw [hv] at HCD
              clear hv hF2
              go_wp2_with (go_at_call 164; refine HCD.out.mono ?_; rintro e w2 ⟨rfl, hb2⟩; refine halt_ ?_)
              refine unhalt ?_
              have HB2 : Hid (Below w.heap.size w w2) := HB1.out.trans (hb2.mono HB1.out.size)
              have HK2 := Lib.hid (HK1.out.below hb2 HK1.out.lt)
              have u3 := HK2.out.cell 3
              simp only [List.getElem?_toArray, List.getElem?_cons_succ, List.getElem?_cons_zero] at u3
              clear hb2 HCD
              have HCV := Lib.hid (checkView_any vA vn vc B vis w2 (HO.out.v.below HB2.out hB) (Nat.le_trans hB HB2.out.size) hvn hvc HO.out.vs)
              go_wp2_with (go_at_call 164; refine HCV.out.mono ?_; rintro e w3 ⟨rfl, hb3⟩)
              go_ret
              exact ⟨ret_int hF.out.symm, HB2.out.trans (hb3.mono HB2.out.size)⟩
            · have hF : Hid (ruleE ⟨lab, kind, dA, dn, dc, deps, vA, vn, vc, vis⟩ = elE frlB [] deps) := by show _ = _; rw [hF2.out, if_pos hv]
              have hv' : (elE frlB [] deps != 0) = true := by simpa using hv
              obtain ⟨v, hve⟩ : ∃ v, elE frlB [] deps = v := ⟨_, rfl⟩
              rw [hve] at HCD hv' hF
              clear hv hve hF2
              go_wp2_with (go_at_call 164; refine HCD.out.mono ?_; rintro e w2 ⟨rfl, hb2⟩)
              go_ret
              exact ⟨ret_int hF.out.symm, HB1.out.trans (hb2.mono HB1.out.size)⟩

set_option maxHeartbeats 400000 in
theorem check1_any (t : Tg) (b : Nat) (cs : Array Value) (lab : ByteArray) (w : World) (hc : Bk w b 60 cs) (h1 : cs[1]? = some (.string lab)) :
    Calls Tryz.prog 116 #[rlV t, .pointer (some ⟨b, 0, none⟩)] w fun e w' => e = .returned (.bool (decide (t.lab = lab))) ∧ Below w.heap.size w w' := by
  obtain ⟨tl, kind, dA, dn, dc, deps, vA, vn, vc, vis⟩ := t
  have HB0 : Hid (Below w.heap.size w (w.alloc (.cells #[.int .i64 kind, .string tl, .slice dA dn dc, .slice vA vn vc] 60))) := (Below.refl _ w).alloc (Nat.le_refl _) _
  have c0 := ((hc.below HB0.out hc.lt).cell 1).trans h1
  have k0 := (Bk.new w 60 #[.int .i64 kind, .string tl, .slice dA dn dc, .slice vA vn vc]).cell 1
  simp only [List.getElem?_toArray, List.getElem?_cons_zero, List.getElem?_cons_succ] at k0
  simp only [rlV]
  clear hc
  go_enter Tryz.func116, Tryz.ntmps116
  go_wp2
  go_ret
  exact ⟨ret_bool (str_dec tl lab), HB0.out⟩
/-- the first k rules have no such name -/
theorem names_pass {ts : List Tg} {lab : ByteArray} {k : Nat} {t : Tg} (h : memB ((ts.take k).map Tg.lab) lab = false) (ht : ts[k]? = some t) (hn : t.lab ≠ lab) : memB ((ts.take (k + 1)).map Tg.lab) lab = false := by
  rw [take_snoc ht, List.map_append, memB, List.any_append]
  have h' : ((ts.take k).map Tg.lab).any (fun y => decide (y = lab)) = false := h
  rw [h']; simp [hn]
set_option maxRecDepth 100000 in
set_option maxHeartbeats 1000000 in
theorem indexRule_any (A : Option Addr) (n m c B b : Nat) (ts : List Tg) (cs : Array Value) (lab : ByteArray) (w : World) (h0 : Sl w B 4 A n (flat rlC ts)) (hB : B ≤ w.heap.size) (hm : m ≤ n) (hn : n ≤ 1000000) (hc : Bk w b 60 cs) (h1 : cs[1]? = some (.string lab)) :
    Calls Tryz.prog 167 #[.slice A m c, .func (.func 116) #[] #[.pointer (some ⟨b, 0, none⟩)]] w fun e w' => ∃ z : Int, e = .returned (.int .i64 z) ∧ decide (0 ≤ z) = memB ((ts.take m).map Tg.lab) lab ∧ Below w.heap.size w w' := by
  have HL := Lib.hid (h0.len rlC_len (by omega))
  have H0 := Lib.hid h0; have HC := Lib.hid hc
  clear h0 hc
  go_enter Tryz.func167, Tryz.ntmps167
  go_wp2
  go_loopw [8] (fun i wr => ∃ k : Nat, k ≤ m ∧ i = .int .i64 k ∧ Hid (memB ((ts.take k).map Tg.lab) lab = false) ∧ Hid (Below w.heap.size w wr)) (fun i _ => m - (intOf i).toNat)
  case atStart => exact ⟨0, Nat.zero_le _, rfl, rfl, Below.refl _ _⟩
  case round =>
    obtain ⟨k, hk, rfl, hF, hBel⟩ := hrel
    by_cases hlt : k < m
    · obtain ⟨bb, off, t, rfl, hbB, ht, y0, y1, y2, y3⟩ := (H0.out.below hBel.out hB).rl (show k < n by omega)
      have hlz : (k : Int) < (m : Int) := by omega
      have HI := Lib.hid (check1_any t b cs lab wr (HC.out.below hBel.out HC.out.lt) h1)
      have HT := Lib.hid ht
      clear ht
      by_cases e : t.lab = lab
      · have HE : Hid (memB ((ts.take m).map Tg.lab) lab = true) := by
          show _ = _
          rw [memB_iff, List.mem_map]
          exact ⟨t, List.mem_iff_getElem?.2 ⟨k, by rw [List.getElem?_take, if_pos hlt]; exact HT.out⟩, e⟩
        have hd : decide (t.lab = lab) = true := by simp [e]
        rw [hd] at HI
        clear e hd
        obtain ⟨tl, kind, dA, dn, dc, deps, vA, vn, vc, vis⟩ := t
        simp only [rlV] at HI y0 y1 y2 y3
        go_wp2_with (go_at_call 116; refine HI.out.mono ?_; rintro e w1 ⟨rfl, hb1⟩)
        go_ret
        exact ⟨k, rfl, by rw [HE.out]; simp, hBel.out.trans (hb1.mono hBel.out.size)⟩
      · have HE := Lib.hid (names_pass hF.out HT.out e)
        have hd : decide (t.lab = lab) = false := by simp [e]
        rw [hd] at HI
        clear e hd
        obtain ⟨tl, kind, dA, dn, dc, deps, vA, vn, vc, vis⟩ := t
        simp only [rlV] at HI y0 y1 y2 y3
        go_wp2_with (go_at_call 116; refine HI.out.mono ?_; rintro e w1 ⟨rfl, hb1⟩)
        go_roundw
        case rel => exact ⟨k + 1, by omega, by go_num, HE.out, hBel.out.trans (hb1.mono hBel.out.size)⟩
        case measure => simp [intOf]; omega
    · have hlz : ¬ (k : Int) < (m : Int) := by omega
      have ek : k = m := by omega
      subst ek
      go_wp2
      go_ret
      exact ⟨-1, rfl, by rw [← List.map_take, hF.out]; decide, hBel.out⟩
set_option maxHeartbeats 400000 in
theorem containsRule_any (A : Option Addr) (n m c B b : Nat) (ts : List Tg) (cs : Array Value) (lab : ByteArray) (w : World) (h0 : Sl w B 4 A n (flat rlC ts)) (hB : B ≤ w.heap.size) (hm : m ≤ n) (hn : n ≤ 1000000) (hc : Bk w b 60 cs) (h1 : cs[1]? = some (.string lab)) :
    Calls Tryz.prog 115 #[.slice A m c, .func (.func 116) #[] #[.pointer (some ⟨b, 0, none⟩)]] w fun e w' => e = .returned (.bool (memB ((ts.take m).map Tg.lab) lab)) ∧ Below w.heap.size w w' := by
  have HI := Lib.hid (indexRule_any A n m c B b ts cs lab w h0 hB hm hn hc h1)
  clear h0 hc h1
  go_enter Tryz.func115, Tryz.ntmps115
  go_wp2_with (go_at_call 167; refine HI.out.mono ?_; rintro e w2 ⟨z, rfl, hz, hb⟩; have HZ := Lib.hid hz; clear hz)
  go_ret
  exact ⟨ret_bool HZ.out, hb⟩
set_option maxRecDepth 100000 in
set_option maxHeartbeats 2000000 in
theorem check_g (A : Option Addr) (n c B : Nat) (l : List Tg) (w : World) (h : Sl w B 4 A n (flat rlC l)) (hok : ∀ t ∈ l, TgOk w B t) (hB : B ≤ w.heap.size) (hn : n ≤ c) (hc : c ≤ maxLen) :
    Calls Tryz.prog 81 #[.slice A n c] w fun e w' => e = .returned (.int .i64 (checkE l)) ∧ Below w.heap.size w w' := by
  have HL := Lib.hid (h.len rlC_len (by omega))
  have H := Lib.hid h; have HO := Lib.hid hok
  clear h hok
  have hnm : n ≤ 9223372036854775807 := by unfold maxLen at hc; omega
  go_enter Tryz.func81, Tryz.ntmps81
  by_cases h100 : 100 < n
  · have hz : (100 : Int) < (n : Int) := by omega
    have hF : Hid (checkE l = 4) := by show _ = _; unfold checkE; rw [if_pos (by rw [HL.out]; exact h100)]
    go_wp2_with fail
    go_ret
    exact ⟨ret_int hF.out.symm, Below.refl _ _⟩
  have hz : ¬ (100 : Int) < (n : Int) := by omega
  have hF0 : Hid (checkE l = chkE ((l.take 0).map Tg.lab) (l.drop 0)) := by show _ = _; unfold checkE; rw [if_neg (by rw [HL.out]; exact h100)]; rfl
  go_wp2
  go_loopw [11] (fun i wr => ∃ k : Nat, k ≤ n ∧ i = .int .i64 k ∧ Hid (checkE l = chkE ((l.take k).map Tg.lab) (l.drop k)) ∧ Hid (Below w.heap.size w wr)) (fun i _ => n - (intOf i).toNat)
  case atStart => exact ⟨0, Nat.zero_le _, rfl, hF0.out, Below.refl _ _⟩
  case round =>
    obtain ⟨k, hk, rfl, hE, hBel⟩ := hrel
    by_cases hlt : k < n
    · obtain ⟨bb, off, t, rfl, hbB, ht, y0, y1, y2, y3⟩ := (H.out.below hBel.out hB).rl hlt
      have hlz : (k : Int) < (n : Int) := by omega
      have HT := Lib.hid ht
      have HTK := Lib.hid (chkE_take ht)
      have HOK := HO.out t (List.mem_of_getElem? ht)
      clear ht
      have HB0 : Hid (Below wr.heap.size wr (wr.alloc (.cells #[.int .i64 t.kind, .string t.lab, .slice t.dA t.dn t.dc, .slice t.vA t.vn t.vc] 60))) := (Below.refl _ wr).alloc (Nat.le_refl _) _
      have HK0 := Lib.hid (Bk.new wr 60 #[.int .i64 t.kind, .string t.lab, .slice t.dA t.dn t.dc, .slice t.vA t.vn t.vc])
      have HC := Lib.hid (checkRule_g B t (wr.alloc (.cells #[.int .i64 t.kind, .string t.lab, .slice t.dA t.dn t.dc, .slice t.vA t.vn t.vc] 60)) (HOK.below (hBel.out.trans (HB0.out.mono hBel.out.size)) hB) (by have := hBel.out.size; simp; omega))
      have HSL : Hid (∀ w' : World, (Instr.sliceAt 58 (.slice (some ⟨bb, off, none⟩) n c) none (some (.int .i64 k)) none).run Tryz.prog w' = .ok (.slice (some ⟨bb, off, none⟩) k c) w') := fun w' => by
        obtain ⟨i0, hi0, _⟩ := info_parts infoRule
        exact run_slice_to 58 i0 Tryz.underlying58 hi0 _ n c k (by omega) w'
      clear HOK
      by_cases hv : ruleE t = 0
      · rw [hv] at HC
        have HE2 : Hid (checkE l = if memB ((l.take k).map Tg.lab) t.lab then 7 else chkE ((l.take (k + 1)).map Tg.lab) (l.drop (k + 1))) := by show _ = _; rw [hE.out, HTK.out, if_neg (fun h => h hv)]
        clear hv HTK
        obtain ⟨tl, kind, dA, dn, dc, deps, vA, vn, vc, vis⟩ := t
        simp only [rlV] at HC y0 y1 y2 y3 HB0 HK0 HE2
        go_wp2_with (go_at_call 114; refine HC.out.mono ?_; rintro e w2 ⟨rfl, hb2⟩; refine halt_ ?_)
        refine unhalt ?_
        have HB2 : Hid (Below w.heap.size w w2) := hBel.out.trans ((HB0.out.trans (hb2.mono (by simp))).mono hBel.out.size)
        have HK2 := Lib.hid (HK0.out.below hb2 (by simp))
        have hsl := HSL.out
        have HCC := Lib.hid (containsRule_any (some ⟨bb, off, none⟩) n k c B wr.heap.size l _ tl w2 (H.out.below HB2.out hB) (Nat.le_trans hB HB2.out.size) hk (by omega) HK2.out rfl)
        clear hb2
        cases hm : memB ((l.take k).map Tg.lab) tl with
        | true =>
          have hF : Hid (checkE l = 7) := by show _ = _; rw [HE2.out, hm]; rfl
          rw [hm] at HCC
          clear hm
          go_wp2_with (go_at_call 115; refine HCC.out.mono ?_; rintro e w3 ⟨rfl, hb3⟩)
          go_ret
          exact ⟨ret_int hF.out.symm, HB2.out.trans (hb3.mono HB2.out.size)⟩
        | false =>
          have hF : Hid (checkE l = chkE ((l.take (k + 1)).map Tg.lab) (l.drop (k + 1))) := by show _ = _; rw [HE2.out, hm]; rfl
          rw [hm] at HCC
          clear hm
          go_wp2_with (go_at_call 115; refine HCC.out.mono ?_; rintro e w3 ⟨rfl, hb3⟩)
          go_roundw
          case rel => exact ⟨k + 1, hlt, by go_num, hF.out, HB2.out.trans (hb3.mono HB2.out.size)⟩
          case measure => simp [intOf]; omega
      · have hF : Hid (checkE l = ruleE t) := by show _ = _; rw [hE.out, HTK.out, if_pos hv]
        have hv' : (ruleE t != 0) = true := by simpa using hv
        obtain ⟨v, hve⟩ : ∃ v, ruleE t = v := ⟨_, rfl⟩
        rw [hve] at HC hv' hF
        clear hv hve HTK
        obtain ⟨tl, kind, dA, dn, dc, deps, vA, vn, vc, vis⟩ := t
        simp only [rlV] at HC y0 y1 y2 y3 HB0 HK0
        go_wp2_with (go_at_call 114; refine HC.out.mono ?_; rintro e w2 ⟨rfl, hb2⟩)
        go_ret
        exact ⟨ret_int hF.out.symm, hBel.out.trans ((HB0.out.trans (hb2.mono (by simp))).mono hBel.out.size)⟩
    · have hlz : ¬ (k : Int) < (n : Int) := by omega
      have hF : Hid (checkE l = 0) := by show _ = _; rw [hE.out, List.drop_of_length_le (by rw [HL.out]; omega)]; rfl
      go_wp2
      go_ret
      exact ⟨ret_int hF.out.symm, hBel.out⟩
end Go.Proofs.YtddlohbhchjjhaaGreatDoor

namespace Go.Proofs.YtddlohbhchjjhaaGreatDoor
open Go.RowKit

/-- v may be appended to: it owns its row (in a block from base on), or it is empty and has no capacity. -/
def Apd (w : World) (base : Nat) (e : TypeId) (size : Nat) (A : Option Addr) (n c : Nat) (xs : List Value) : Prop :=
  w.ownsRow base e size (.slice A n c) n xs ∨ (n = 0 ∧ c = 0 ∧ xs = [])

section
variable {P : Program} {w w' : World} {base size n c : Nat} {e : TypeId} {A : Option Addr} {xs : List Value}
theorem Apd.sl (h : Apd w base e size A n c xs) : Sl w w.heap.size size A n xs := by
  rcases h with h | ⟨rfl, rfl, rfl⟩
  · exact Sl.of_own h
  · exact Sl.nil _ _ _ _
theorem Apd.below (h : Apd w base e size A n c xs) (hb : Below w.heap.size w w') : Apd w' base e size A n c xs := by
  rcases h with h | h
  · exact .inl (h.kept (row := none) ⟨hb.os, hb.tape, hb.output, hb.size, fun k hk _ => hb.block k hk⟩ (by
      cases hv : (Value.slice A n c).ownBlock with
      | none => exact .inl rfl
      | some k => exact .inr (by simp)))
  · exact .inr h
theorem Apd.setCell (h : Apd w base e size A n c xs) {a : Addr} (ha : a.block < base) (u : Value) : Apd (w.setCell a u) base e size A n c xs := by
  rcases h with h | h
  · exact .inl (ownsRow_setCell_below h ha u)
  · exact .inr h
theorem below_of_none (hg : w.grownBy w' none) : Below w.heap.size w w' := ⟨hg.os, hg.tape, hg.output, hg.size, fun k hk => hg.block k hk (by simp)⟩

/-- onto a slice that is empty and has no capacity: only new memory is made. -/
theorem run_append_empty (t ty : TypeId) (i : TypeInfo) (z : Value) (bytes : Nat) (ht : P.underlying t = some (.slice e)) (hi : P.info? e = some i) (hz : i.zero = some z)
    (hsize : i.size = size) (hby : i.bytes = bytes) (hzs : z.cells.size = size) (hsz : 0 < size)
    {B : Nat} {A' : Option Addr} {m c' : Nat} {ys : List Value} (hsl : Sl w B size A' m ys) (h1 : ∀ u ∈ ys, u.oneCell' = true)
    (h63 : m ≤ maxLen) (hbytes : m * bytes ≤ 140737488355328) (hbase : base ≤ w.heap.size) (A : Option Addr) :
    ∃ A2 c2 w', (Builtin.append_ #[t, t] ty #[.slice A 0 0, .slice A' m c']).run P w = .ok (.slice A2 m c2) w' ∧ Apd w' base e size A2 m c2 ys ∧ Below w.heap.size w w' ∧ m ≤ c2 ∧ c2 ≤ maxLen := by
  rcases Nat.eq_zero_or_pos m with h | hm
  · subst h
    have hy : ys = [] := by
      have := hsl.1; rw [Nat.zero_mul] at this; exact List.length_eq_zero_iff.1 this
    subst hy
    refine ⟨A, 0, w, ?_, .inr ⟨rfl, rfl, rfl⟩, Below.refl _ _, Nat.le_refl _, Nat.zero_le _⟩
    cases A <;> cases A' <;> simp [Builtin.append_, run_underlying ht, sizeOf, typeInfo, hi, Builtin.lenOf, Builtin.firstCells, loadCells, loadCellsFrom, storeCells]
  · -- as onto nil
    have hrun : (Builtin.append_ #[t, t] ty #[.slice A 0 0, .slice A' m c']).run P w = (Builtin.append_ #[t, t] ty #[.slice none 0 0, .slice A' m c']).run P w := by
      obtain ⟨b, off, rfl, _, _⟩ := hsl.2 hm
      cases A with
      | none => rfl
      | some ad =>
        have hroom : ¬ m = 0 := by omega
        have hfit : ¬ 281474976710656 < Builtin.nextslicecap m 0 * i.bytes := by
          have := growslice_fits (old := 0) (need := m) (bytes := bytes) (by omega) hbytes
          rw [hby]; omega
        simp [Builtin.append_, run_underlying ht, sizeOf, typeInfo, hi, Builtin.lenOf, Builtin.firstCells, loadCells, loadCellsFrom, hroom, hfit]
    obtain ⟨A2, c2, w2, hr, ho, hg, hc1, hc2⟩ := run_append_sl (P := P) (base := base) (v := .slice none 0 0) (n := 0) (xs := []) t ty i z bytes ht hi hz hsize hby hzs hsz (World.ownsRow_nil w base e size) (c := c') hsl h1 (by omega) (by rw [Nat.zero_add]; exact hbytes) hbase
    simp only [Nat.zero_add, List.nil_append] at hr ho hc1
    exact ⟨A2, c2, w2, hrun.trans hr, .inl ho, below_of_none hg, hc1, hc2⟩

/-- rows of another element type are as they were -/
def OthersKept (e : TypeId) (w w' : World) : Prop := ∀ (base size n : Nat) (e' : TypeId) (v : Value) (xs : List Value), e' ≠ e → w.ownsRow base e' size v n xs → w'.ownsRow base e' size v n xs
theorem run_append_apd (t ty : TypeId) (i : TypeInfo) (z : Value) (bytes : Nat) (ht : P.underlying t = some (.slice e)) (hi : P.info? e = some i) (hz : i.zero = some z)
    (hsize : i.size = size) (hby : i.bytes = bytes) (hzs : z.cells.size = size) (hsz : 0 < size) (ha : Apd w base e size A n c xs)
    {B : Nat} {A' : Option Addr} {m c' : Nat} {ys : List Value} (hsl : Sl w B size A' m ys) (h1 : ∀ u ∈ ys, u.oneCell' = true)
    (h63 : n + m ≤ maxLen) (hbytes : (n + m) * bytes ≤ 140737488355328) (hbase : base ≤ w.heap.size) :
    ∃ A2 c2 w', (Builtin.append_ #[t, t] ty #[.slice A n c, .slice A' m c']).run P w = .ok (.slice A2 (n + m) c2) w' ∧ Apd w' base e size A2 (n + m) c2 (xs ++ ys) ∧ Below base w w' ∧ n + m ≤ c2 ∧ c2 ≤ maxLen ∧ OthersKept e w w' := by
  rcases ha with h | ⟨rfl, rfl, rfl⟩
  · obtain ⟨A2, c2, w2, hr, ho, hg, hc1, hc2⟩ := run_append_sl (P := P) t ty i z bytes ht hi hz hsize hby hzs hsz h (c := c') hsl h1 h63 hbytes hbase
    exact ⟨A2, c2, w2, hr, .inl ho, (Below.refl _ w).grown hg hbase (fun k hk => ownBlock_ge h k hk), hc1, hc2, fun _ _ _ _ _ _ hne h' => h'.kept hg (ownsRow_apart h h' hne)⟩
  · obtain ⟨A2, c2, w2, hr, ho, hg, hc1, hc2⟩ := run_append_empty (P := P) (base := base) t ty i z bytes ht hi hz hsize hby hzs hsz (c' := c') hsl h1 (by omega) (by rw [Nat.zero_add] at hbytes; exact hbytes) hbase A
    rw [Nat.zero_add, List.nil_append]
    exact ⟨A2, c2, w2, hr, ho, hg.mono hbase, hc1, hc2, fun _ _ _ _ v _ _ h' => h'.kept (row := none) ⟨hg.os, hg.tape, hg.output, hg.size, fun k hk _ => hg.block k hk⟩ (by cases hv : v.ownBlock with | none => exact .inl rfl | some k => exact .inr (by simp))⟩

/-- `append(s, x...)` at the operation, s as above. -/
theorem wpList_append_apd (w : World) {ops : Array Oper} {rest : List Oper} {o : Oper} {a : Act} {Q : Exit → Act → World → Prop} (hgd : o.guard = none) (s x : Operand) (t : TypeId)
    (ho : o.op = .call { callee := .builtin .append, args := #[s, x], argTypes := #[t, t] })
    (e : TypeId) (i : TypeInfo) (z : Value) (bytes : Nat) (ht : P.underlying t = some (.slice e)) (hi : P.info? e = some i) (hz : i.zero = some z)
    (hsize : i.size = size) (hby : i.bytes = bytes) (hzs : z.cells.size = size) (hsz : 0 < size)
    (A : Option Addr) (n c : Nat) (xs : List Value) (hs : a.eval s = .slice A n c) (hown : Apd w base e size A n c xs)
    (B : Nat) (A' : Option Addr) (m c' : Nat) (ys : List Value) (hx : a.eval x = .slice A' m c') (hsl : Sl w B size A' m ys) (h1 : ∀ u ∈ ys, u.oneCell' = true)
    (h63 : n + m ≤ maxLen) (hbytes : (n + m) * bytes ≤ 140737488355328) (hbase : base ≤ w.heap.size)
    (h : ∀ A2 c2 w', Apd w' base e size A2 (n + m) c2 (xs ++ ys) → Below base w w' → n + m ≤ c2 → c2 ≤ maxLen → OthersKept e w w' → wpList P ops Q rest (a.put o.dst (.slice A2 (n + m) c2)) w') : wpList P ops Q (o :: rest) a w := by
  refine wpList_plain hgd fun K hK => ?_
  obtain ⟨A2, c2, w', hr, ho', hg, hc1, hc2, hok⟩ := run_append_apd (P := P) t o.type i z bytes ht hi hz hsize hby hzs hsz hown (c' := c') hsl h1 h63 hbytes hbase
  unfold Oper.wp
  simp [execOp, ho, resolve, invoke, builtin, hs, hx, hr, Result.andThen]
  exact hK _ _ (h A2 c2 w' ho' hg hc1 hc2 hok)
end
end Go.Proofs.YtddlohbhchjjhaaGreatDoor

namespace Go.Proofs.YtddlohbhchjjhaaGreatDoor
open Go.RowKit

def Que (w : World) (base : Nat) (e : TypeId) (size : Nat) (A : Option Addr) (n c : Nat) (xs : List Value) : Prop :=
  xs.length = n * size ∧ ((n = 0 ∧ c = 0) ∨ ∃ g off cur, A = some ⟨g, off, none⟩ ∧ base ≤ g ∧ w.heap[g]? = some (.cells cur e (0, 0)) ∧ n ≤ c ∧ c ≤ maxLen ∧ cur.size = off + c * size ∧ (cur.toList.drop off).take (n * size) = xs)
section
variable {P : Program} {w w' : World} {base size n c : Nat} {e : TypeId} {A : Option Addr} {xs : List Value}
theorem Que.of_own (h : w.ownsRow base e size (.slice A n c) n xs) : Que w base e size A n c xs := by
  refine ⟨h.1, ?_⟩
  rcases h.2 with ⟨hv, h0⟩ | ⟨g, cap, cur, hv, h1, h2, h3, h4, h5, h6⟩
  · simp at hv; exact .inl ⟨h0, hv.2.2⟩
  · simp at hv
    obtain ⟨rfl, rfl⟩ := hv
    exact .inr ⟨g, 0, cur, rfl, h1, h2, h3, h4, by omega, by simpa using h6⟩
theorem Que.more {base' : Nat} (h : Que w base e size A n c xs) (hb : base' ≤ base) : Que w base' e size A n c xs := by
  obtain ⟨h0, h | ⟨g, off, cur, h1, h2, h3⟩⟩ := h
  · exact ⟨h0, .inl h⟩
  · exact ⟨h0, .inr ⟨g, off, cur, h1, by omega, h3⟩⟩
theorem Que.le (h : Que w base e size A n c xs) : n ≤ c ∧ c ≤ maxLen := by
  obtain ⟨h0, ⟨rfl, rfl⟩ | ⟨g, off, cur, h1, h2, h3, h4, h5, _⟩⟩ := h
  · exact ⟨Nat.le_refl _, Nat.zero_le _⟩
  · exact ⟨h4, h5⟩
/-- it stays while blocks of its element type stay -/
theorem Que.keep (h : Que w base e size A n c xs) (hk : ∀ (g : Nat) (cur : Array Value), w.heap[g]? = some (Obj.cells cur e (0, 0)) → w'.heap[g]? = w.heap[g]?) : Que w' base e size A n c xs := by
  obtain ⟨h0, h | ⟨g, off, cur, h1, h2, h3, h4⟩⟩ := h
  · exact ⟨h0, .inl h⟩
  · exact ⟨h0, .inr ⟨g, off, cur, h1, h2, (hk g cur h3).trans h3, h4⟩⟩
theorem Que.sl (h : Que w base e size A n c xs) : Sl w w.heap.size size A n xs := by
  obtain ⟨h0, ⟨rfl, rfl⟩ | ⟨g, off, cur, h1, h2, h3, h4, h5, h6, h7⟩⟩ := h
  · exact ⟨h0, fun h => absurd h (by omega)⟩
  · refine ⟨h0, fun _ => ⟨g, off, h1, (Array.getElem?_eq_some_iff.1 h3).1, fun j u hu => ?_⟩⟩
    rw [← h7, List.getElem?_take] at hu
    split at hu
    · rw [List.getElem?_drop] at hu
      simp [World.cell?, h3]
      simpa using hu
    · cases hu
/-- s[1:] -/
theorem Que.tail {g off : Nat} (h : Que w base e size (some ⟨g, off, none⟩) (n + 1) c xs) : Que w base e size (some ⟨g, off + size, none⟩) n (c - 1) (xs.drop size) := by
  obtain ⟨h0, ⟨h1, _⟩ | ⟨g', off', cur, h1, h2, h3, h4, h5, h6, h7⟩⟩ := h
  · omega
  · simp at h1
    obtain ⟨rfl, rfl⟩ := h1
    have hc : c * size = (c - 1) * size + size := by
      have : c = (c - 1) + 1 := by omega
      rw [this, Nat.add_mul]; simp
    have hn : (n + 1) * size = n * size + size := by rw [Nat.add_mul]; simp
    refine ⟨by rw [List.length_drop, h0, hn]; omega, .inr ⟨g, off + size, cur, rfl, h2, h3, by omega, by omega, by omega, ?_⟩⟩
    rw [← h7, hn, List.drop_take, List.drop_drop]
    congr 1
    omega
theorem run_append_que (t ty : TypeId) (i : TypeInfo) (z : Value) (bytes : Nat) (ht : P.underlying t = some (.slice e)) (hi : P.info? e = some i) (hz : i.zero = some z)
    (hsize : i.size = size) (hby : i.bytes = bytes) (hzs : z.cells.size = size) (hsz : 0 < size) (ha : Que w base e size A n c xs)
    {B : Nat} {A' : Option Addr} {m c' : Nat} {ys : List Value} (hsl : Sl w B size A' m ys) (h1 : ∀ u ∈ ys, u.oneCell' = true) (hm : 0 < m)
    (h63 : n + m ≤ maxLen) (hbytes : (n + m) * bytes ≤ 140737488355328) (hbase : base ≤ w.heap.size) :
    ∃ A2 c2 w' row, (Builtin.append_ #[t, t] ty #[.slice A n c, .slice A' m c']).run P w = .ok (.slice A2 (n + m) c2) w' ∧ Que w' base e size A2 (n + m) c2 (xs ++ ys) ∧ w.grownBy w' row ∧ (∀ g, row = some g → base ≤ g ∧ (∃ cur, w.heap[g]? = some (.cells cur e (0, 0))) ∧ c ≠ 0 ∧ ∃ off, A = some ⟨g, off, none⟩) ∧ ∀ g off, A2 = some ⟨g, off, none⟩ → (c ≠ 0 ∧ ∃ off, A = some ⟨g, off, none⟩) ∨ w.heap.size ≤ g := by
  obtain ⟨h0, ⟨rfl, rfl⟩ | ⟨g, off, cur, rfl, h2, h3, h4, h5, h6, h7⟩⟩ := ha
  · have hx : xs = [] := List.eq_nil_of_length_eq_zero (by simpa using h0)
    subst hx
    obtain ⟨A2, c2, w2, hr, ho, hg, hc1, hc2⟩ := run_append_empty (P := P) (base := w.heap.size) t ty i z bytes ht hi hz hsize hby hzs hsz (c' := c') hsl h1 (by omega) (by rw [Nat.zero_add] at hbytes; exact hbytes) (Nat.le_refl _) A
    rw [Nat.zero_add, List.nil_append]
    rcases ho with ho | ⟨e1, _⟩
    · refine ⟨A2, c2, w2, none, hr, (Que.of_own ho).more hbase, ⟨hg.os, hg.tape, hg.output, hg.size, fun k hk _ => hg.block k hk⟩, (fun g h => by cases h), fun g off e => .inr ?_⟩
      subst e
      exact (ho.lt g rfl).1
    · omega
  · obtain ⟨b', off', rfl, hb', hcy⟩ := hsl.2 hm
    have hnews : ∀ j u, ys[j]? = some u → w.cell? (Addr.add ⟨b', off', none⟩ j) = some u := fun j u hj => by rw [Addr.add_lit]; exact hcy j u hj
    by_cases hroom : n + m ≤ c
    · subst hsize
      have hf := run_firstCells_some (P := P) w i.size m ⟨b', off', none⟩ m c' ys hsl.1 hnews
      have hfit : off + n * i.size + ys.length ≤ cur.size := by
        rw [hsl.1, h6, Nat.add_assoc, ← Nat.add_mul]; exact Nat.add_le_add_left (Nat.mul_le_mul_right _ hroom) _
      have hst := run_storeCells_at P g (off + n * i.size) e ys 0 cur w h3 (by simpa using hfit) h1
      simp only [Nat.add_zero] at hst
      refine ⟨some ⟨g, off, none⟩, c, w.setRow g (cur.toList.take (off + n * i.size) ++ ys ++ cur.toList.drop (off + n * i.size + ys.length)).toArray, some g, ?_, ?_, ⟨rfl, rfl, rfl, by simp, fun k _ hk => setRow_other w g k _ (fun e => hk (by simp [e]))⟩, (fun g' e' => by cases e'; exact ⟨h2, ⟨cur, h3⟩, by omega, off, rfl⟩), fun g' o' e' => .inl ⟨by omega, off, by cases e'; rfl⟩⟩
      · simp [Builtin.append_, run_underlying ht, sizeOf, typeInfo, hi, Builtin.lenOf, hroom, hf, Addr.add_lit, hst]
      · have hlen : (xs ++ ys).length = (n + m) * i.size := by rw [List.length_append, h0, hsl.1, Nat.add_mul]
        refine ⟨hlen, .inr ⟨g, off, _, rfl, h2, setRow_heap w g cur _ e _ h3, hroom, h5, ?_, ?_⟩⟩
        · simp only [List.size_toArray, List.length_append, List.length_take, List.length_drop, Array.length_toList]
          omega
        · have e1 : cur.toList.take (off + n * i.size) = cur.toList.take off ++ xs := by rw [← h7, List.take_add]
          have e2 : (cur.toList.take off).length = off := by rw [List.length_take, Array.length_toList]; omega
          simp only [e1, List.append_assoc]
          rw [List.drop_append_of_le_length (by omega), List.drop_of_length_le (by omega), List.nil_append, ← List.append_assoc, ← hlen]
          exact List.take_left
    · obtain ⟨v', w2, hrun, r1, r2⟩ := run_append_arg_grows (P := P) w t ty e i z size bytes ht hi hz hsize hby hzs hsz ⟨g, off, none⟩ n c xs h0 (fun j u hj => by
        rw [Addr.add_lit]
        have := (Que.sl (w := w) (base := base) (e := e) (c := c) ⟨h0, .inr ⟨g, off, cur, rfl, h2, h3, h4, h5, h6, h7⟩⟩).2
        rcases Nat.eq_zero_or_pos n with hn | hn
        · subst hn
          have hx : xs = [] := List.eq_nil_of_length_eq_zero (by simpa using h0)
          subst hx; simp at hj
        · obtain ⟨b1, o1, e1, _, hc1⟩ := this hn
          simp at e1
          obtain ⟨rfl, rfl⟩ := e1
          exact hc1 j u hj) ⟨b', off', none⟩ m c' ys hsl.1 hnews (by omega) h63 hbytes
      rcases r1.2 with ⟨_, h8⟩ | ⟨g2, cap2, cur2, rfl, h8, _⟩
      · omega
      · exact ⟨_, cap2, w2, none, hrun, (Que.of_own r1).more hbase, r2, (fun g h => by cases h), fun g' o' e' => .inr (by cases e'; exact h8)⟩
end
end Go.Proofs.YtddlohbhchjjhaaGreatDoor

namespace Go.Proofs.YtddlohbhchjjhaaGreatDoor
open Go.RowKit

/-- What an iterator does that keeps its state in memory of its own: it may change the world by steps St between two rounds; it hands over elements; all have come (S), or a part of them (Sp). -/
def SeqT {α : Type} (F : Fence) (n : Nat) (P : Program) (g : Nat) (lb : Array Value) (encs : α → Array Value) (Kp St : World → World → Prop) (Pf S Sp : List α → Prop) (hz : Nat) (w : World) : Prop :=
  ∀ (l : Nat) (J Jx : List α → World → Prop) (W : World), Below w.heap.size w W → W.heap.size = hz → (∀ pre A B, J pre A → St A B → J pre B) →
    (∀ pre x W1, Pf (pre ++ [x]) → J pre W1 → YieldAt F (n - 1) P l (encs x) W1 fun e W' =>
      (e = .returned (.bool true) ∧ J (pre ++ [x]) W' ∧ Kp W1 W') ∨ (e = .returned (.bool false) ∧ Jx (pre ++ [x]) W')) →
    J [] W →
    CallsIn F n P g (#[.func (.yield l) #[] #[]] ++ lb) W fun e W' => (∃ v, e = .returned v) ∧ ((∃ xs, S xs ∧ J xs W') ∨ (∃ pre, Sp pre ∧ Jx pre W'))

/-- the loop's own two blocks are as they were -/
def Rec2 (D : Nat) (W W' : World) : Prop := W'.heap[D]? = W.heap[D]? ∧ W'.heap[D + 1]? = W.heap[D + 1]?
theorem Rec2.refl (D : Nat) (W : World) : Rec2 D W W := ⟨rfl, rfl⟩
def ownPostT {α : Type} (D : Nat) (Kp : World → World → Prop) (I : List α → World → Prop) (Ix : Code → List α → World → Prop) (xs : List α) (W : World) : Exit → Act → World → Prop
  | .normal, _, W' => Rec2 D W W' ∧ Kp W W' ∧ I xs W'
  | .ret, _, W' => Rec2 D W W' ∧ Ix .ret xs W'
  | .exit id, _, W' => Rec2 D W W' ∧ Ix (.exit id) xs W'
  | .goto t, _, W' => Rec2 D W W' ∧ Ix (.goto t) xs W'
  | .panic _, _, _ => False
  | .outgrown, _, _ => False
variable {F : Fence} {n : Nat} {P : Program}

theorem wpIn_rangeT {α : Type} {g : Operand} {ps : Array Tmp} {assign body : Code} {Q : Exit → Act → World → Prop} {a : Act} {w : World}
    (hro : F.round = none) (h1 : 1 ≤ n) {gf : Nat} {lb : Array Value} (hg : a.eval g = .func (.func gf) #[] lb) (hFg : F.fn gf) (eg : ∀ args w, (callFunc gf args).run P w = .ok (.enter gf args) w)
    {encs : α → Array Value} {Kp St : World → World → Prop} {Pf S Sp : List α → Prop} {w0 : World} (hseq : SeqT F (n - 1) P gf lb encs Kp St Pf S Sp (w.heap.size + 2) w0)
    (hKt : ∀ {A B C : World}, Kp A B → Kp B C → Kp A C) (hKb : ∀ (W : World) (l : Nat) (r : Loop) (o' : Obj), w.heap.size + 1 = l → W.heap[l]? = some (.loop r) → Kp W (W.putObj l o')) (hSo : ∀ A B, St A B → w.heap.size + 2 ≤ A.heap.size → Rec2 w.heap.size A B) (hb0 : Below w0.heap.size w0 w) (hps : ∀ x, (encs x).size = ps.size)
    (I : List α → World → Prop) (Ix : Code → List α → World → Prop) (hI : OwnFrom w.heap.size I) (hIx : ∀ c, OwnFrom w.heap.size (Ix c)) (hIS : ∀ pre A B, I pre A → St A B → I pre B) (h0 : I [] w) (a₁ : α → Act)
    (hassign : ∀ (l : Nat) (x : α) (W : World) (K : Act → World → Prop), K (a₁ x) W →
      assign.wpIn (F.inRound l) (n - 1 - 1) P (Exit.then K (fun _ _ _ => False)) { tmps := (ps.zip (encs x)).foldl (fun t (p, v) => t.setIfInBounds p v) a.tmps, defers := [] } W)
    (hbody : ∀ (l : Nat) (pre : List α) (x : α) (W : World), Pf (pre ++ [x]) → w.heap.size + 2 ≤ W.heap.size → I pre W → body.wpIn (F.inRound l) (n - 1 - 1) P (ownPostT w.heap.size Kp I Ix (pre ++ [x]) W) (a₁ x) W)
    (hdone : ∀ (D : Nat) (xs : List α) (W : World), w.heap.size ≤ D → S xs → I xs W → W.heap[D]? = some (.deferred (some [])) → Q .normal { a with defers := { target := .collected D, args := #[] } :: a.defers } W)
    (hstop : ∀ (D : Nat) (c : Code) (pre : List α) (W : World), w.heap.size ≤ D → Sp pre → Ix c pre W → W.heap[D]? = some (.deferred (some [])) → c.wpIn F n P Q { a with defers := { target := .collected D, args := #[] } :: a.defers } W) :
    (Code.rangeFunc g ps assign body).wpIn F n P Q a w := by
  refine wpIn_rangeFunc ?_
  intro fn hfn
  rw [hro]
  -- the loop's record in block L, the block of its deferred calls in block D
  obtain ⟨D, hD⟩ : ∃ D, w.heap.size = D := ⟨_, rfl⟩
  obtain ⟨rec, hrec⟩ : ∃ rec : LoopState → Option Code → Loop, rec = fun st pe => { state := st, pending := pe, fn, tmps := a.tmps, params := ps, assign, body, defers := D } := ⟨_, rfl⟩
  obtain ⟨W1, hW1⟩ : ∃ W1, (w.alloc (.deferred (some []))).alloc (.loop (rec .ready none)) = W1 := ⟨_, rfl⟩
  have hL1 : W1.heap[D + 1]? = some (.loop (rec .ready none)) := by
    rw [← hW1, ← hD]; have := World.alloc_heap_new (w.alloc (.deferred (some []))) (.loop (rec .ready none)); rwa [World.size_alloc] at this
  have hK1 : W1.heap[D]? = some (.deferred (some [])) := by
    rw [← hW1, ← hD]; exact (Below.heap_alloc _ _ _ (by simp)).trans (World.alloc_heap_new w _)
  have hI1 : I [] W1 := by rw [← hW1]; exact hI.alloc _ (hI.alloc _ h0)
  have hb1 : Below w0.heap.size w0 W1 := by
    rw [← hW1]; exact hb0.trans ((((Below.refl _ w).alloc (Nat.le_refl _) _).alloc (by simp) _).mono hb0.size)
  refine ⟨D + 1, [{ target := .collected D, args := #[] }], W1, { target := .fn (.func gf) lb, args := #[.func (.yield (D + 1)) #[] #[]] }, W1, gf,
    #[.func (.yield (D + 1)) #[] #[]] ++ lb, W1, ?_, ?_, ?_, ?_, fun _ => h1, ?_⟩
  · rw [← hW1, hrec, ← hD]; exact run_enterLoop_outer _ _ _ _ _
  · simp only [resolve, hg]
    simp [go_sem]
  · intro f' hf'; simp [Target.leads] at hf'; subst hf'; exact hFg
  · simp [invoke, go_sem, eg]
  · refine (hseq (D + 1)
      (fun pre W => I pre W ∧ W.heap[D + 1]? = some (.loop (rec .ready none)) ∧ W.heap[D]? = some (.deferred (some [])))
      (fun pre W => ∃ c, Ix c pre W ∧ W.heap[D + 1]? = some (.loop (rec .done (some c))) ∧ W.heap[D]? = some (.deferred (some [])))
      W1 hb1 (by rw [← hW1]; simp)
      (fun pre A B hs hst => by
        have hz2 := (Array.getElem?_eq_some_iff.1 hs.2.1).1
        have hr := hSo A B hst (by omega)
        rw [hD] at hr
        exact ⟨hIS pre A B hs.1 hst, hr.2.trans hs.2.1, hr.1.trans hs.2.2⟩)
      ?_ ⟨hI1, hL1, hK1⟩).mono ?_
    · rintro pre x W hpf ⟨hi, hl, hk⟩
      have hlt : D + 1 < W.heap.size := (Array.getElem?_eq_some_iff.1 hl).1
      have hy := run_yield (P := P) (args := encs x) hl (by rw [hrec]; exact hps x)
      rw [hrec] at hy
      refine ⟨fn, _, assign, body, hy, roundIn_of_wpIn hfn (hassign _ x W _ ⟨_, run_beginRound hl (by rw [hrec]), ?_⟩)⟩
      obtain ⟨W2, hW2⟩ : ∃ W2, W.putObj (D + 1) (.loop { rec .ready none with state := .busy }) = W2 := ⟨_, rfl⟩
      have hl2 : W2.heap[D + 1]? = some (.loop { rec .ready none with state := .busy }) := by rw [← hW2]; exact World.putObj_heap_same hlt
      have hk2 : W2.heap[D]? = some (.deferred (some [])) := by rw [← hW2]; exact (World.putObj_heap_other (by omega)).trans hk
      have hw2 : Kp W W2 := by rw [← hW2]; exact hKb _ _ _ _ (by omega) hl
      have hi2 : I pre W2 := by rw [← hW2]; exact hI.putObj _ hi (by omega) hl rfl
      rw [hW2]
      refine wpIn_mono (hbody _ pre x _ hpf (by have := (Array.getElem?_eq_some_iff.1 hl2).1; omega) hi2) ?_
      have fin : ∀ (jump : Option Code) (W3 : World), Rec2 w.heap.size W2 W3 →
          (Instr.endRound (D + 1) jump).run P W3 = .ok (.bool jump.isNone) (W3.putObj (D + 1) (.loop (rec (if jump.isNone then .ready else .done) jump))) ∧
          W3.heap[D + 1]? = some (.loop { rec .ready none with state := .busy }) ∧
          (W3.putObj (D + 1) (.loop (rec (if jump.isNone then .ready else .done) jump))).heap[D + 1]? = some (.loop (rec (if jump.isNone then .ready else .done) jump)) ∧
          (W3.putObj (D + 1) (.loop (rec (if jump.isNone then .ready else .done) jump))).heap[D]? = some (.deferred (some [])) := fun jump W3 hk3 => by
        rw [hD] at hk3
        have hl3 := hk3.2.trans hl2
        have := run_endRound (P := P) jump hl3
        rw [hrec] at this ⊢
        exact ⟨this, by rw [hrec] at hl3; exact hl3, World.putObj_heap_same (Array.getElem?_eq_some_iff.1 hl3).1, (World.putObj_heap_other (by omega)).trans (hk3.1.trans hk2)⟩
      rintro e a3 W3 hp
      cases e with
      | normal =>
        obtain ⟨hk3, hkp3, hi3⟩ := hp
        obtain ⟨hr, hl3, hl4, hk4⟩ := fin none W3 hk3
        exact ⟨_, _, hr, .inl ⟨rfl, ⟨hI.putObj _ hi3 (by omega) hl3 rfl, hl4, hk4⟩, hKt (hKt hw2 hkp3) (hKb _ _ _ _ (by omega) hl3)⟩⟩
      | ret =>
        obtain ⟨hk3, hi3⟩ := hp
        obtain ⟨hr, hl3, hl4, hk4⟩ := fin (some .ret) W3 hk3
        exact ⟨_, _, hr, .inr ⟨rfl, .ret, (hIx _).putObj _ hi3 (by omega) hl3 rfl, hl4, hk4⟩⟩
      | exit id =>
        obtain ⟨hk3, hi3⟩ := hp
        obtain ⟨hr, hl3, hl4, hk4⟩ := fin (some (.exit id)) W3 hk3
        exact ⟨_, _, hr, .inr ⟨rfl, .exit id, (hIx _).putObj _ hi3 (by omega) hl3 rfl, hl4, hk4⟩⟩
      | goto t =>
        obtain ⟨hk3, hi3⟩ := hp
        obtain ⟨hr, hl3, hl4, hk4⟩ := fin (some (.goto t)) W3 hk3
        exact ⟨_, _, hr, .inr ⟨rfl, .goto t, (hIx _).putObj _ hi3 (by omega) hl3 rfl, hl4, hk4⟩⟩
      | panic ch => exact hp.elim
      | outgrown => exact hp.elim
    · rintro e W2 ⟨⟨v, rfl⟩, (⟨xs, hS, hi, hl, hk⟩ | ⟨pre, hSp, c, hi, hl, hk⟩)⟩
      · exact ⟨none, _, by have := run_endLoop (P := P) hl (by rw [hrec]; simp); rw [hrec] at this; exact this, hdone _ xs _ (by omega) hS (hI.putObj _ hi (by omega) hl rfl) ((World.putObj_heap_other (by omega)).trans hk)⟩
      · exact ⟨some c, _, by have := run_endLoop (P := P) hl (by rw [hrec]; simp); rw [hrec] at this; exact this, hstop _ c pre _ (by omega) hSp ((hIx c).putObj _ hi (by omega) hl rfl) ((World.putObj_heap_other (by omega)).trans hk)⟩
end Go.Proofs.YtddlohbhchjjhaaGreatDoor

namespace Go.Proofs.YtddlohbhchjjhaaGreatDoor
open Go.RowKit Go.Maps

section
variable {F : Fence} {n' : Nat} {P : Program} {w : World}
theorem wpListIn_append_que {base size : Nat} {ops : Array Oper} {rest : List Oper} {o : Oper} {a : Act} {Q : Exit → Act → World → Prop} (hgd : o.guard = none) (s x : Operand) (t : TypeId)
    (ho : o.op = .call { callee := .builtin .append, args := #[s, x], argTypes := #[t, t] })
    (e : TypeId) (i : TypeInfo) (z : Value) (bytes : Nat) (ht : P.underlying t = some (.slice e)) (hi : P.info? e = some i) (hz : i.zero = some z)
    (hsize : i.size = size) (hby : i.bytes = bytes) (hzs : z.cells.size = size) (hsz : 0 < size)
    (A : Option Addr) (n c : Nat) (xs : List Value) (hs : a.eval s = .slice A n c) (hown : Que w base e size A n c xs)
    (B : Nat) (A' : Option Addr) (m c' : Nat) (ys : List Value) (hx : a.eval x = .slice A' m c') (hsl : Sl w B size A' m ys) (h1 : ∀ u ∈ ys, u.oneCell' = true) (hm : 0 < m)
    (h63 : n + m ≤ maxLen) (hbytes : (n + m) * bytes ≤ 140737488355328) (hbase : base ≤ w.heap.size)
    (h : ∀ A2 c2 w' row, Que w' base e size A2 (n + m) c2 (xs ++ ys) → w.grownBy w' row → (∀ g, row = some g → base ≤ g ∧ (∃ cur, w.heap[g]? = some (.cells cur e (0, 0))) ∧ c ≠ 0 ∧ ∃ off, A = some ⟨g, off, none⟩) → (∀ g off, A2 = some ⟨g, off, none⟩ → (c ≠ 0 ∧ ∃ off, A = some ⟨g, off, none⟩) ∨ w.heap.size ≤ g) → wpListIn F n' P ops Q rest (a.put o.dst (.slice A2 (n + m) c2)) w') : wpListIn F n' P ops Q (o :: rest) a w := by
  refine wpListIn_plain hgd fun K hK => ?_
  obtain ⟨A2, c2, w', row, hr, h2, h3, h4, h5⟩ := run_append_que (P := P) t o.type i z bytes ht hi hz hsize hby hzs hsz hown (c' := c') hsl h1 hm h63 hbytes hbase
  unfold Oper.wpIn
  refine ⟨?_, ?_⟩
  · simp [Oper.about, ho, resolve, Target.leads, Sem.run_pure]
  · rw [Oper.semAt_plain F _ _ (by rw [ho]; intro c hc'; cases hc')]
    simp [execOp, ho, resolve, invoke, builtin, hs, hx, hr, Result.andThen]
    exact hK _ _ (h A2 c2 w' row h2 h3 h4 h5)
theorem wpListIn_append_sl {base size : Nat} {ops : Array Oper} {rest : List Oper} {o : Oper} {a : Act} {Q : Exit → Act → World → Prop} (hgd : o.guard = none) (s x : Operand) (t : TypeId)
    (ho : o.op = .call { callee := .builtin .append, args := #[s, x], argTypes := #[t, t] })
    (e : TypeId) (i : TypeInfo) (z : Value) (bytes : Nat) (ht : P.underlying t = some (.slice e)) (hi : P.info? e = some i) (hz : i.zero = some z)
    (hsize : i.size = size) (hby : i.bytes = bytes) (hzs : z.cells.size = size) (hsz : 0 < size)
    (v : Value) (n : Nat) (xs : List Value) (hs : a.eval s = v) (hown : w.ownsRow base e size v n xs)
    (B : Nat) (A : Option Addr) (m c : Nat) (ys : List Value) (hx : a.eval x = .slice A m c) (hsl : Sl w B size A m ys) (h1 : ∀ u ∈ ys, u.oneCell' = true)
    (h63 : n + m ≤ maxLen) (hbytes : (n + m) * bytes ≤ 140737488355328) (hbase : base ≤ w.heap.size)
    (h : ∀ A' c' w', w'.ownsRow base e size (.slice A' (n + m) c') (n + m) (xs ++ ys) → w.grownBy w' v.ownBlock → n + m ≤ c' → c' ≤ maxLen → wpListIn F n' P ops Q rest (a.put o.dst (.slice A' (n + m) c')) w') : wpListIn F n' P ops Q (o :: rest) a w := by
  refine wpListIn_plain hgd fun K hK => ?_
  obtain ⟨A', c', w', hr, ho', hg, hc1, hc2⟩ := run_append_sl (P := P) t o.type i z bytes ht hi hz hsize hby hzs hsz hown (c := c) hsl h1 h63 hbytes hbase
  unfold Oper.wpIn
  refine ⟨?_, ?_⟩
  · simp [Oper.about, ho, resolve, Target.leads, Sem.run_pure]
  · rw [Oper.semAt_plain F _ _ (by rw [ho]; intro c hc'; cases hc')]
    simp [execOp, ho, resolve, invoke, builtin, hs, hx, hr, Result.andThen]
    exact hK _ _ (h A' c' w' ho' hg hc1 hc2)
theorem wpListIn_put_rm {ops : Array Oper} {rest : List Oper} {o : Oper} {a : Act} {Q : Exit → Act → World → Prop} (hgd : o.guard = none) (m x y : Operand) (t : TypeId) (hop : o.op = Op.mapUpdate t m x y)
    (k e : TypeId) (hk : P.underlying k = some .string) (ht : P.underlying t = some (.map k e)) (b N : Nat) (g : ByteArray → Option Value) (hm : a.eval m = .map (some b)) (h : Rm w P k b N g) (hn : N < maxLen)
    (s : ByteArray) (hs : s.size ≤ maxLen) (v : Value) (hx : a.eval x = .string s) (hy : a.eval y = v)
    (hK : ∀ w', Rm w' P k b (N + 1) (upd g s v) → w.grownBy w' (some b) → wpListIn F n' P ops Q rest (a.put o.dst undef) w') : wpListIn F n' P ops Q (o :: rest) a w := by
  refine wpListIn_plain hgd fun K' hK' => ?_
  obtain ⟨w', hrun, r1, r2⟩ := h.put hk ht hn hs v
  unfold Oper.wpIn
  refine ⟨?_, ?_⟩
  · simp [Oper.about, hop]
  · rw [Oper.semAt_plain F _ _ (by rw [hop]; intro c hc'; cases hc')]
    simp [execOp, hop, hm, hx, hy, hrun, Result.andThen]
    exact hK' _ _ (hK w' r1 r2)
end

/-- A block that holds structs of type e. -/
def isRow (e : TypeId) : Option Obj → Prop
  | some (.cells _ t _) => t = e
  | _ => False
/-- What a round keeps: block bm, the blocks that hold structs of type e, and those that Kf names. -/
structure KeepR (bm : Nat) (e : TypeId) (Kf : Nat → Prop) (A B : World) : Prop where
  size : A.heap.size ≤ B.heap.size
  block : ∀ k, k < A.heap.size → (k = bm ∨ isRow e A.heap[k]? ∨ Kf k) → B.heap[k]? = A.heap[k]?
theorem KeepR.trans {bm : Nat} {e : TypeId} {Kf : Nat → Prop} {A B C : World} (h : KeepR bm e Kf A B) (g : KeepR bm e Kf B C) : KeepR bm e Kf A C :=
  ⟨Nat.le_trans h.size g.size, fun k hk hc => by
    have h1 := h.block k hk hc
    rw [← h1] at hc ⊢
    exact g.block k (Nat.lt_of_lt_of_le hk h.size) hc⟩
/-- What the iterator does between two rounds: only block bm, and behind it blocks that hold structs of type e, turn; new ones may come. -/
structure StepR (bm : Nat) (e : TypeId) (A B : World) : Prop where
  os : B.os = A.os
  tape : B.tape = A.tape
  output : B.output = A.output
  size : A.heap.size ≤ B.heap.size
  block : ∀ k, k < A.heap.size → (k < bm ∨ (k ≠ bm ∧ ¬ isRow e A.heap[k]?)) → B.heap[k]? = A.heap[k]?
theorem StepR.of_grown {bm : Nat} {e : TypeId} {A B : World} {row : Option Nat} (hg : A.grownBy B row) (hr : ∀ g, row = some g → g = bm ∨ (bm < g ∧ isRow e A.heap[g]?)) : StepR bm e A B :=
  ⟨hg.os, hg.tape, hg.output, hg.size, fun k hk h1 => hg.block k hk (fun e' => by
    rcases hr k e'.symm with h | ⟨h, h2⟩
    · rcases h1 with h1 | ⟨h1, _⟩
      · omega
      · exact h1 h
    · rcases h1 with h1 | ⟨_, h1⟩
      · omega
      · exact h1 h2)⟩
theorem StepR.alloc {bm : Nat} {e : TypeId} (A : World) (o : Obj) : StepR bm e A (A.alloc o) := StepR.of_grown (World.grownBy_alloc A o none) (fun g h => by cases h)
/-- What the search reads: the boxes bs and bx of its two variables, the map bn with its rows; all but the boxes lie below hi. -/
structure NxR (W : World) (P : Program) (k m : TypeId) (hi bs bx bn N : Nat) (start : ByteArray) (gn : ByteArray → Option Value) (Ln : ByteArray → List ByteArray) : Prop where
  s : W.heap[bs]? = some (.cells #[.string start] k (0, 0))
  x : W.heap[bx]? = some (.cells #[.map (some bn)] m (0, 0))
  lt : bn < hi
  map : Rm W P k bn N gn
  rows : ∀ s, ∃ A c, (gn s).getD (.slice none 0 0) = .slice A (Ln s).length c ∧ Sl W hi 1 A (Ln s).length (strs (Ln s)) ∧ (Ln s).length ≤ c ∧ c ≤ maxLen
theorem Rm.block {w w' : World} {P : Program} {k : TypeId} {b N : Nat} {g : ByteArray → Option Value} (h : Rm w P k b N g) (hb : w'.heap[b]? = w.heap[b]?) : Rm w' P k b N g := by
  obtain ⟨D, ⟨es, clock, h1, h2⟩, h3⟩ := h
  exact ⟨D, ⟨es, clock, hb.trans h1, h2⟩, h3⟩
theorem NxR.keep {W W' : World} {P : Program} {k m : TypeId} {hi bs bx bn N : Nat} {start : ByteArray} {gn : ByteArray → Option Value} {Ln : ByteArray → List ByteArray} (h : NxR W P k m hi bs bx bn N start gn Ln)
    (hk : ∀ j, (j < hi ∨ j = bs ∨ j = bx) → W'.heap[j]? = W.heap[j]?) : NxR W' P k m hi bs bx bn N start gn Ln :=
  ⟨(hk bs (by simp)).trans h.s, (hk bx (by simp)).trans h.x, h.lt, h.map.block (hk bn (.inl h.lt)), fun s => by
    obtain ⟨A, c, h1, h2, h3⟩ := h.rows s
    exact ⟨A, c, h1, h2.keep fun p hp => World.cell?_of_block (hk p.block (.inl hp)), h3⟩⟩
theorem NxR.step {W W' : World} {P : Program} {k m e : TypeId} {hi bs bx bn N bm : Nat} {start : ByteArray} {gn : ByteArray → Option Value} {Ln : ByteArray → List ByteArray} (h : NxR W P k m hi bs bx bn N start gn Ln)
    (hs : StepR bm e W W') (h1 : hi ≤ bm) (h2 : bs < bm) (h3 : bx < bm) (hz : bm ≤ W.heap.size) : NxR W' P k m hi bs bx bn N start gn Ln :=
  h.keep fun j hj => by
    have : j < bm := by omega
    exact hs.block j (by omega) (.inl this)
theorem NxR.round {W W' : World} {P : Program} {k m e : TypeId} {hi bs bx bn N bm : Nat} {start : ByteArray} {gn : ByteArray → Option Value} {Ln : ByteArray → List ByteArray} (h : NxR W P k m hi bs bx bn N start gn Ln)
    (hs : KeepR bm e (fun j => j < hi ∨ j = bs ∨ j = bx) W W') (h1 : hi ≤ bm) (h2 : bs < bm) (h3 : bx < bm) (hz : bm ≤ W.heap.size) : NxR W' P k m hi bs bx bn N start gn Ln :=
  h.keep fun j hj => hs.block j (by omega) (.inr (.inr hj))
end Go.Proofs.YtddlohbhchjjhaaGreatDoor

namespace Go.Proofs.YtddlohbhchjjhaaGreatDoor
open Go.RowKit Go.Shelf
attribute [local go_sem] Oper.semAt_some

/-- from a to e all bytes are such, and the one at e is not -/
def Run (s : ByteArray) (p : UInt8 → Prop) (a e : Nat) : Prop := a < e ∧ e ≤ s.size ∧ (∀ j c, a ≤ j → j < e → (bl s)[j]? = some c → p c) ∧ ∀ c, (bl s)[e]? = some c → ¬ p c
theorem bl_len (s : ByteArray) : (bl s).length = s.size := (size_len s).symm
theorem Run.uniq {s : ByteArray} {p : UInt8 → Prop} {a e f : Nat} (h : Run s p a e) (g : Run s p a f) : e = f := by
  have hl := bl_len s
  rcases Nat.lt_trichotomy e f with hlt | he | hlt
  · have hf := g.2.1
    have hx : (bl s)[e]? = some ((bl s)[e]'(by omega)) := List.getElem?_eq_getElem _
    exact absurd (g.2.2.1 e _ (by have := h.1; omega) hlt hx) (h.2.2.2 _ hx)
  · exact he
  · have hf := h.2.1
    have hx : (bl s)[f]? = some ((bl s)[f]'(by omega)) := List.getElem?_eq_getElem _
    exact absurd (h.2.2.1 f _ (by have := g.1; omega) hlt hx) (g.2.2.2 _ hx)
/-- the words from a place on -/
inductive WdF (s : ByteArray) : Nat → List (ByteArray × Nat) → Prop
  | done {a : Nat} : s.size ≤ a → WdF s a []
  | blank {a : Nat} {c : UInt8} {ws : List (ByteArray × Nat)} : (bl s)[a]? = some c → (c = 32 ∨ c = 10) → WdF s (a + 1) ws → WdF s a ws
  | note {a e : Nat} {ws : List (ByteArray × Nat)} : (bl s)[a]? = some 35 → Run s (fun c => c ≠ 10) a e → WdF s e ws → WdF s a ws
  | word {a e : Nat} {c : UInt8} {ws : List (ByteArray × Nat)} : (bl s)[a]? = some c → c ≠ 32 → c ≠ 10 → c ≠ 35 → Run s (fun c => c ≠ 32 ∧ c ≠ 10) a e → WdF s e ws → WdF s a ((s.extract a e, a) :: ws)
theorem WdF.uniq {s : ByteArray} {a : Nat} {ws vs : List (ByteArray × Nat)} (h : WdF s a ws) : WdF s a vs → ws = vs := by
  induction h generalizing vs with
  | done h =>
    have hn : (bl s)[_]? = none := List.getElem?_eq_none (by rw [bl_len]; exact h)
    intro g
    cases g with
    | done _ => rfl
    | blank h1 _ _ => rw [hn] at h1; cases h1
    | note h1 _ _ => rw [hn] at h1; cases h1
    | word h1 _ _ _ _ _ => rw [hn] at h1; cases h1
  | blank h1 h2 _ ih =>
    intro g
    cases g with
    | done h => rw [List.getElem?_eq_none (by rw [bl_len]; exact h)] at h1; cases h1
    | blank _ _ g3 => exact ih g3
    | note g1 _ _ => rw [h1] at g1; cases g1; rcases h2 with h2 | h2 <;> cases h2
    | word g1 g2 g3 _ _ _ => rw [h1] at g1; cases g1; rcases h2 with h2 | h2; exact absurd h2 g2; exact absurd h2 g3
  | note h1 h2 _ ih =>
    intro g
    cases g with
    | done h => rw [List.getElem?_eq_none (by rw [bl_len]; exact h)] at h1; cases h1
    | blank g1 g2 _ => rw [h1] at g1; cases g1; rcases g2 with g2 | g2 <;> cases g2
    | note _ g2 g3 => obtain rfl := h2.uniq g2; exact ih g3
    | word g1 _ _ g4 _ _ => rw [h1] at g1; cases g1; exact absurd rfl g4
  | word h1 h2 h3 h4 h5 _ ih =>
    intro g
    cases g with
    | done h => rw [List.getElem?_eq_none (by rw [bl_len]; exact h)] at h1; cases h1
    | blank g1 g2 _ => rw [h1] at g1; cases g1; rcases g2 with g2 | g2; exact absurd g2 h2; exact absurd g2 h3
    | note g1 _ _ => rw [h1] at g1; cases g1; exact absurd rfl h4
    | word _ _ _ _ g5 g6 => obtain rfl := h5.uniq g5; rw [ih g6]
/-- words that have been read up to a place -/
structure WdP (s : ByteArray) (a : Nat) (pre : List (ByteArray × Nat)) : Prop where
  le : a ≤ s.size
  len : pre.length ≤ a
  sz : ∀ x ∈ pre, x.1.size ≤ s.size ∧ x.2 ≤ s.size
  rest : ∀ ws, WdF s a ws → WdF s 0 (pre ++ ws)
theorem WdP.start (s : ByteArray) : WdP s 0 [] := ⟨Nat.zero_le _, Nat.zero_le _, (fun x h => by cases h), fun ws h => h⟩
theorem WdP.blank {s : ByteArray} {a : Nat} {c : UInt8} {pre : List (ByteArray × Nat)} (h : WdP s a pre) (h1 : (bl s)[a]? = some c) (h2 : c = 32 ∨ c = 10) : WdP s (a + 1) pre := by
  have hl := (List.getElem?_eq_some_iff.1 h1).1
  rw [bl_len] at hl
  exact ⟨hl, Nat.le_succ_of_le h.len, h.sz, fun ws hw => h.rest ws (.blank h1 h2 hw)⟩
theorem WdP.note {s : ByteArray} {a e : Nat} {pre : List (ByteArray × Nat)} (h : WdP s a pre) (h1 : (bl s)[a]? = some 35) (h2 : Run s (fun c => c ≠ 10) a e) : WdP s e pre :=
  ⟨h2.2.1, Nat.le_trans h.len (Nat.le_of_lt h2.1), h.sz, fun ws hw => h.rest ws (.note h1 h2 hw)⟩
theorem WdP.word {s : ByteArray} {a e : Nat} {c : UInt8} {pre : List (ByteArray × Nat)} (h : WdP s a pre) (h1 : (bl s)[a]? = some c) (h2 : c ≠ 32) (h3 : c ≠ 10) (h4 : c ≠ 35) (h5 : Run s (fun c => c ≠ 32 ∧ c ≠ 10) a e) : WdP s e (pre ++ [(s.extract a e, a)]) :=
  ⟨h5.2.1, by have := h.len; have := h5.1; simp; omega, fun x hx => by
    rcases List.mem_append.1 hx with hx | hx
    · exact h.sz x hx
    · rw [List.mem_singleton.1 hx]; simp; have := h5.1; have := h5.2.1; omega, fun ws hw => by
    rw [List.append_assoc]; exact h.rest _ (.word h1 h2 h3 h4 h5 hw)⟩
theorem WdP.end_ {s : ByteArray} {a : Nat} {pre : List (ByteArray × Nat)} (h : WdP s a pre) (ha : s.size ≤ a) : WdF s 0 pre := by
  have := h.rest [] (.done ha); rwa [List.append_nil] at this
def KeepWd (bs : Nat) (A B : World) : Prop := B.heap[bs]? = A.heap[bs]?
def wdV (x : ByteArray × Nat) : Array Value := #[.agg #[.string x.1, .int .i64 (x.2 : Int)]]
theorem byte_ne {c d : UInt8} {k : Int} (hk : (d.toNat : Int) = k) (h : c ≠ d) : ((c.toNat : Int) == k) = false := by
  rw [beq_eq_false_iff_ne]; intro e
  apply h
  apply UInt8.toNat_inj.1
  omega
theorem byte_eq {c d : UInt8} {k : Int} (hk : (d.toNat : Int) = k) (h : c = d) : ((c.toNat : Int) == k) = true := by rw [h, hk]; simp

set_option maxRecDepth 100000 in
set_option maxHeartbeats 4000000 in
theorem words1_st (n bs hz : Nat) (hn : 1 ≤ n) (s : ByteArray) (w : World) (hs : s.size ≤ 1000000) (h0 : w.heap[bs]? = some (.cells #[.string s] 9 (0, 0))) :
    SeqT Fence.wide n Tryz.prog 187 #[.pointer (some ⟨bs, 0, none⟩)] wdV (KeepWd bs) (fun A B => B = A)
      (fun pre => ∃ a, WdP s a pre) (fun xs => WdF s 0 xs) (fun pre => ∃ a, WdP s a pre) hz w := fun l J Jx W hW hWz hJ hY hJ0 => by
  have g0 : W.heap[bs]? = some (.cells #[.string s] 9 (0, 0)) := (hW.block bs (Array.getElem?_eq_some_iff.1 h0).1).trans h0
  clear hW h0 hWz
  have G0 := Lib.hid g0; have HY := Lib.hid hY; have HJ0 := Lib.hid hJ0
  clear g0 hJ hY hJ0
  refine callsIn_of_wp Tryz.func187 rfl trivial ?_ rfl
  simp only [Tryz.ntmps187, List.size_toArray, List.length_cons, List.length_nil, Nat.reduceAdd, Nat.reduceSub, Array.replicate_succ, Array.replicate_zero, List.push_toArray, List.append_toArray, List.nil_append, List.cons_append]
  gi_wp2_with fail
  gi_loopw [3] (fun q wr => ∃ (a : Nat) (pre : List (ByteArray × Nat)), q = .int .i64 (a : Int) ∧ a ≤ s.size ∧ Hid (WdP s a pre) ∧ Hid (wr.heap[bs]? = some (.cells #[.string s] 9 (0, 0))) ∧ Hid (J pre wr)) (fun q _ => s.size - (intOf q).toNat)
  case atStart => exact ⟨0, [], rfl, Nat.zero_le _, WdP.start s, G0.out, HJ0.out⟩
  case round =>
    obtain ⟨a, pre, rfl, ha, hP, hG, hj⟩ := hrel
    have c0 := cell_of_one hG.out
    by_cases hlt : a < s.size
    · have hlz : (a : Int) < (s.size : Int) := by omega
      have hg := get_data s a hlt
      have HA : Hid ((bl s)[a]? = some s[a]) := hg
      clear hg
      by_cases h32 : s[a] = 32
      · have t1 := byte_eq (c := s[a]) (d := 32) (k := 32) rfl h32
        have HP2 := Lib.hid (hP.out.blank HA.out (.inl h32))
        clear h32
        gi_wp2
        go_roundw
        case rel => exact ⟨a + 1, pre, by go_num, hlt, HP2.out, hG.out, hj.out⟩
        case measure => simp [intOf]; omega
      · have t1 := byte_ne (c := s[a]) (d := 32) (k := 32) rfl h32
        by_cases h10 : s[a] = 10
        · have t2 := byte_eq (c := s[a]) (d := 10) (k := 10) rfl h10
          have HP2 := Lib.hid (hP.out.blank HA.out (.inr h10))
          clear h32 h10
          gi_wp2
          go_roundw
          case rel => exact ⟨a + 1, pre, by go_num, hlt, HP2.out, hG.out, hj.out⟩
          case measure => simp [intOf]; omega
        · have t2 := byte_ne (c := s[a]) (d := 10) (k := 10) rfl h10
          by_cases h35 : s[a] = 35
          · have t3 := byte_eq (c := s[a]) (d := 35) (k := 35) rfl h35
            have HA35 : Hid ((bl s)[a]? = some 35) := by rw [← h35]; exact HA.out
            have H10 := Lib.hid h10
            obtain ⟨wo, hwo⟩ : ∃ wo, wo = wr := ⟨_, rfl⟩
            subst hwo
            clear h32 h10 h35
            gi_wp2
            gi_loopw [3] (fun q wr => ∃ e : Nat, q = .int .i64 (e : Int) ∧ a ≤ e ∧ e ≤ s.size ∧ Hid (∀ j c, a ≤ j → j < e → (bl s)[j]? = some c → c ≠ 10) ∧ wr = wo) (fun q _ => s.size - (intOf q).toNat)
            case atStart => exact ⟨a, rfl, Nat.le_refl _, ha, fun j c h1 h2 => absurd h1 (by omega), rfl⟩
            case round =>
              obtain ⟨e, rfl, hae, hes, hR, rfl⟩ := hrel
              have fin : ∀ (_ : ∀ c, (bl s)[e]? = some c → ¬ c ≠ 10), Hid (Run s (fun c => c ≠ 10) a e) := fun hf => by
                refine ⟨?_, hes, hR.out, hf⟩
                rcases Nat.eq_or_lt_of_le hae with h | h
                · subst h; exact absurd H10.out (hf _ HA.out)
                · exact h
              by_cases hel : e < s.size
              · have hez : (e : Int) < (s.size : Int) := by omega
                have hg := get_data s e hel
                have HE : Hid ((bl s)[e]? = some s[e]) := hg
                clear hg
                by_cases k10 : s[e] = 10
                · have t4 := byte_eq (c := s[e]) (d := 10) (k := 10) rfl k10
                  have t4' : ((s[e].toNat : Int) != 10) = false := by unfold bne; rw [t4]; rfl
                  have HRn := fin (fun c hc => by rw [HE.out] at hc; cases hc; rw [k10]; simp)
                  have HP2 := Lib.hid (hP.out.note HA35.out HRn.out)
                  clear k10 fin
                  gi_wp2
                  go_roundw
                  case rel => exact ⟨e, pre, rfl, hes, HP2.out, hG.out, hj.out⟩
                  case measure => have := HRn.out.1; simp [intOf]; omega
                · have t4 := byte_ne (c := s[e]) (d := 10) (k := 10) rfl k10
                  have t4' : ((s[e].toNat : Int) != 10) = true := by unfold bne; rw [t4]; rfl
                  have HR2 : Hid (∀ j c, a ≤ j → j < e + 1 → (bl s)[j]? = some c → c ≠ 10) := fun j c h1 h2 h3 => by
                    by_cases ej : j = e
                    · subst ej; rw [HE.out] at h3; cases h3; exact k10
                    · exact hR.out j c h1 (by omega) h3
                  clear k10 fin
                  gi_wp2
                  go_roundw
                  case rel => exact ⟨e + 1, by go_num, by omega, hel, HR2.out, trivial⟩
                  case measure => simp [intOf]; omega
              · have hez : ¬ (e : Int) < (s.size : Int) := by omega
                have HRn := fin (fun c hc => by rw [List.getElem?_eq_none (by rw [bl_len]; omega)] at hc; cases hc)
                have HP2 := Lib.hid (hP.out.note HA35.out HRn.out)
                clear fin
                gi_wp2
                go_roundw
                case rel => exact ⟨e, pre, rfl, hes, HP2.out, hG.out, hj.out⟩
                case measure => have := HRn.out.1; simp [intOf]; omega
          · have t3 := byte_ne (c := s[a]) (d := 35) (k := 35) rfl h35
            have H32 := Lib.hid h32; have H10 := Lib.hid h10; have H35 := Lib.hid h35
            obtain ⟨wo, hwo⟩ : ∃ wo, wo = wr := ⟨_, rfl⟩
            subst hwo
            clear h32 h10 h35
            gi_wp2
            gi_loopw [4] (fun q wr => ∃ e : Nat, q = .int .i64 (e : Int) ∧ a ≤ e ∧ e ≤ s.size ∧ Hid (∀ j c, a ≤ j → j < e → (bl s)[j]? = some c → c ≠ 32 ∧ c ≠ 10) ∧ wr = wo) (fun q _ => s.size - (intOf q).toNat)
            case atStart => exact ⟨a, rfl, Nat.le_refl _, ha, fun j c h1 h2 => absurd h1 (by omega), rfl⟩
            case round =>
              obtain ⟨e, rfl, hae, hes, hR, rfl⟩ := hrel
              have fin : ∀ (_ : ∀ c, (bl s)[e]? = some c → ¬ (c ≠ 32 ∧ c ≠ 10)), Hid (Run s (fun c => c ≠ 32 ∧ c ≠ 10) a e) := fun hf => by
                refine ⟨?_, hes, hR.out, hf⟩
                rcases Nat.eq_or_lt_of_le hae with h | h
                · subst h; exact absurd ⟨H32.out, H10.out⟩ (hf _ HA.out)
                · exact h
              have stay : ∀ (hel : e < s.size) (_ : s[e] ≠ 32) (_ : s[e] ≠ 10), Hid (∀ j c, a ≤ j → j < e + 1 → (bl s)[j]? = some c → c ≠ 32 ∧ c ≠ 10) := fun hel k1 k2 j c h1 h2 h3 => by
                by_cases ej : j = e
                · subst ej
                  have hg : (bl s)[j]? = some s[j] := get_data s j hel
                  rw [hg] at h3; cases h3; exact ⟨k1, k2⟩
                · exact hR.out j c h1 (by omega) h3
              by_cases hel : e < s.size
              · have hez : (e : Int) < (s.size : Int) := by omega
                have hg := get_data s e hel
                have HE : Hid ((bl s)[e]? = some s[e]) := hg
                clear hg
                by_cases k32 : s[e] = 32
                · have t4 := byte_eq (c := s[e]) (d := 32) (k := 32) rfl k32
                  have t4' : ((s[e].toNat : Int) != 32) = false := by unfold bne; rw [t4]; rfl
                  have HRn := fin (fun c hc => by rw [HE.out] at hc; cases hc; rw [k32]; simp)
                  have HP2 := Lib.hid (hP.out.word HA.out H32.out H10.out H35.out HRn.out)
                  have haz : (a : Int) ≤ (e : Int) := by omega
                  have hez2 : (e : Int) ≤ (s.size : Int) := by omega
                  have hlt2 := HRn.out.1
                  obtain ⟨fn, tmps, assign, body, hy, hR'⟩ := HY.out pre (s.extract a e, a) wr ⟨e, HP2.out⟩ hj.out
                  simp only [wdV] at hy hR'
                  have HR' := Lib.hid hR'
                  clear hR' fin stay k32
                  gi_wp2
                  refine HR'.out.mono ?_
                  rintro e' W3 (⟨rfl, hJ3, hK3⟩ | ⟨rfl, hJx3⟩)
                  · have HG3 : Hid (W3.heap[bs]? = some (.cells #[.string s] 9 (0, 0))) := Eq.trans hK3 hG.out
                    have HJ3 := Lib.hid hJ3
                    clear hJ3 hK3
                    gi_wp2
                    go_roundw
                    case rel => exact ⟨e, pre ++ [(s.extract a e, a)], rfl, hes, HP2.out, HG3.out, HJ3.out⟩
                    case measure => simp [intOf]; omega
                  · gi_wp2
                    refine bodyPost_ret (results_none rfl _ _ _) rfl ?_
                    exact ⟨⟨_, rfl⟩, .inr ⟨_, ⟨e, HP2.out⟩, hJx3⟩⟩
                · have t4 := byte_ne (c := s[e]) (d := 32) (k := 32) rfl k32
                  have t4' : ((s[e].toNat : Int) != 32) = true := by unfold bne; rw [t4]; rfl
                  by_cases k10 : s[e] = 10
                  · have t5 := byte_eq (c := s[e]) (d := 10) (k := 10) rfl k10
                    have t5' : ((s[e].toNat : Int) != 10) = false := by unfold bne; rw [t5]; rfl
                    have HRn := fin (fun c hc => by rw [HE.out] at hc; cases hc; rw [k10]; simp)
                    have HP2 := Lib.hid (hP.out.word HA.out H32.out H10.out H35.out HRn.out)
                    have haz : (a : Int) ≤ (e : Int) := by omega
                    have hez2 : (e : Int) ≤ (s.size : Int) := by omega
                    have hlt2 := HRn.out.1
                    obtain ⟨fn, tmps, assign, body, hy, hR'⟩ := HY.out pre (s.extract a e, a) wr ⟨e, HP2.out⟩ hj.out
                    simp only [wdV] at hy hR'
                    have HR' := Lib.hid hR'
                    clear hR' fin stay k10 k32
                    gi_wp2
                    refine HR'.out.mono ?_
                    rintro e' W3 (⟨rfl, hJ3, hK3⟩ | ⟨rfl, hJx3⟩)
                    · have HG3 : Hid (W3.heap[bs]? = some (.cells #[.string s] 9 (0, 0))) := Eq.trans hK3 hG.out
                      have HJ3 := Lib.hid hJ3
                      clear hJ3 hK3
                      gi_wp2
                      go_roundw
                      case rel => exact ⟨e, pre ++ [(s.extract a e, a)], rfl, hes, HP2.out, HG3.out, HJ3.out⟩
                      case measure => simp [intOf]; omega
                    · gi_wp2
                      refine bodyPost_ret (results_none rfl _ _ _) rfl ?_
                      exact ⟨⟨_, rfl⟩, .inr ⟨_, ⟨e, HP2.out⟩, hJx3⟩⟩
                  · have t5 := byte_ne (c := s[e]) (d := 10) (k := 10) rfl k10
                    have t5' : ((s[e].toNat : Int) != 10) = true := by unfold bne; rw [t5]; rfl
                    have HR2 := stay hel k32 k10
                    clear k10 k32 fin stay
                    gi_wp2
                    go_roundw
                    case rel => exact ⟨e + 1, by go_num, by omega, hel, HR2.out, trivial⟩
                    case measure => simp [intOf]; omega
              · have hez : ¬ (e : Int) < (s.size : Int) := by omega
                have HRn := fin (fun c hc => by rw [List.getElem?_eq_none (by rw [bl_len]; omega)] at hc; cases hc)
                have HP2 := Lib.hid (hP.out.word HA.out H32.out H10.out H35.out HRn.out)
                have haz : (a : Int) ≤ (e : Int) := by omega
                have hez2 : (e : Int) ≤ (s.size : Int) := by omega
                have hlt2 := HRn.out.1
                obtain ⟨fn, tmps, assign, body, hy, hR'⟩ := HY.out pre (s.extract a e, a) wr ⟨e, HP2.out⟩ hj.out
                simp only [wdV] at hy hR'
                have HR' := Lib.hid hR'
                clear hR' fin stay 
                gi_wp2
                refine HR'.out.mono ?_
                rintro e' W3 (⟨rfl, hJ3, hK3⟩ | ⟨rfl, hJx3⟩)
                · have HG3 : Hid (W3.heap[bs]? = some (.cells #[.string s] 9 (0, 0))) := Eq.trans hK3 hG.out
                  have HJ3 := Lib.hid hJ3
                  clear hJ3 hK3
                  gi_wp2
                  go_roundw
                  case rel => exact ⟨e, pre ++ [(s.extract a e, a)], rfl, hes, HP2.out, HG3.out, HJ3.out⟩
                  case measure => simp [intOf]; omega
                · gi_wp2
                  refine bodyPost_ret (results_none rfl _ _ _) rfl ?_
                  exact ⟨⟨_, rfl⟩, .inr ⟨_, ⟨e, HP2.out⟩, hJx3⟩⟩
    · have hlz : ¬ (a : Int) < (s.size : Int) := by omega
      have HE := Lib.hid (hP.out.end_ (by omega))
      gi_wp2
      go_end0
      exact ⟨⟨_, rfl⟩, .inl ⟨pre, HE.out, hj.out⟩⟩
end Go.Proofs.YtddlohbhchjjhaaGreatDoor

namespace Go.Proofs.YtddlohbhchjjhaaGreatDoor
open Go.RowKit
variable {F : Fence} {n : Nat} {P : Program}

theorem wpIn_rangeTA {α : Type} {g : Operand} {ps : Array Tmp} {assign body : Code} {Q : Exit → Act → World → Prop} {a : Act} {w : World}
    (hro : F.round = none) (h1 : 1 ≤ n) {gf : Nat} {lb : Array Value} (hg : a.eval g = .func (.func gf) #[] lb) (hFg : F.fn gf) (eg : ∀ args w, (callFunc gf args).run P w = .ok (.enter gf args) w)
    {encs : α → Array Value} {Kp St : World → World → Prop} {Pf S Sp : List α → Prop} {w0 : World} (hseq : SeqT F (n - 1) P gf lb encs Kp St Pf S Sp (w.heap.size + 2) w0)
    (hKt : ∀ {A B C : World}, Kp A B → Kp B C → Kp A C) (hKb : ∀ (W : World) (l : Nat) (r : Loop) (o' : Obj), w.heap.size + 1 = l → W.heap[l]? = some (.loop r) → Kp W (W.putObj l o')) (hSo : ∀ A B, St A B → w.heap.size + 2 ≤ A.heap.size → Rec2 w.heap.size A B) (hb0 : Below w0.heap.size w0 w) (hps : ∀ x, (encs x).size = ps.size)
    (I : List α → World → Prop) (Ix : Code → List α → World → Prop) (hI : OwnFrom w.heap.size I) (hIx : ∀ c, OwnFrom w.heap.size (Ix c)) (hIS : ∀ pre A B, I pre A → St A B → I pre B) (h0 : I [] w) (As : α → Nat → World → Prop) (hAp : ∀ x b W l (r : Loop) (o : Obj), W.heap[l]? = some (.loop r) → As x b W → As x b (W.putObj l o)) (a₁ : α → Nat → Act)
    (hassign : ∀ (l : Nat) (pre : List α) (x : α) (W : World) (K : Act → World → Prop), w.heap.size + 2 ≤ W.heap.size → I pre W → (∀ b W', Rec2 w.heap.size W W' → Kp W W' → I pre W' → As x b W' → K (a₁ x b) W') →
      assign.wpIn (F.inRound l) (n - 1 - 1) P (Exit.then K (fun _ _ _ => False)) { tmps := (ps.zip (encs x)).foldl (fun t (p, v) => t.setIfInBounds p v) a.tmps, defers := [] } W)
    (hbody : ∀ (l : Nat) (pre : List α) (x : α) (b : Nat) (W : World), Pf (pre ++ [x]) → w.heap.size + 2 ≤ W.heap.size → I pre W → As x b W → body.wpIn (F.inRound l) (n - 1 - 1) P (ownPostT w.heap.size Kp I Ix (pre ++ [x]) W) (a₁ x b) W)
    (hdone : ∀ (D : Nat) (xs : List α) (W : World), w.heap.size ≤ D → S xs → I xs W → W.heap[D]? = some (.deferred (some [])) → Q .normal { a with defers := { target := .collected D, args := #[] } :: a.defers } W)
    (hstop : ∀ (D : Nat) (c : Code) (pre : List α) (W : World), w.heap.size ≤ D → Sp pre → Ix c pre W → W.heap[D]? = some (.deferred (some [])) → c.wpIn F n P Q { a with defers := { target := .collected D, args := #[] } :: a.defers } W) :
    (Code.rangeFunc g ps assign body).wpIn F n P Q a w := by
  refine wpIn_rangeFunc ?_
  intro fn hfn
  rw [hro]
  -- the loop's record in block L, the block of its deferred calls in block D
  obtain ⟨D, hD⟩ : ∃ D, w.heap.size = D := ⟨_, rfl⟩
  obtain ⟨rec, hrec⟩ : ∃ rec : LoopState → Option Code → Loop, rec = fun st pe => { state := st, pending := pe, fn, tmps := a.tmps, params := ps, assign, body, defers := D } := ⟨_, rfl⟩
  obtain ⟨W1, hW1⟩ : ∃ W1, (w.alloc (.deferred (some []))).alloc (.loop (rec .ready none)) = W1 := ⟨_, rfl⟩
  have hL1 : W1.heap[D + 1]? = some (.loop (rec .ready none)) := by
    rw [← hW1, ← hD]; have := World.alloc_heap_new (w.alloc (.deferred (some []))) (.loop (rec .ready none)); rwa [World.size_alloc] at this
  have hK1 : W1.heap[D]? = some (.deferred (some [])) := by
    rw [← hW1, ← hD]; exact (Below.heap_alloc _ _ _ (by simp)).trans (World.alloc_heap_new w _)
  have hI1 : I [] W1 := by rw [← hW1]; exact hI.alloc _ (hI.alloc _ h0)
  have hb1 : Below w0.heap.size w0 W1 := by
    rw [← hW1]; exact hb0.trans ((((Below.refl _ w).alloc (Nat.le_refl _) _).alloc (by simp) _).mono hb0.size)
  refine ⟨D + 1, [{ target := .collected D, args := #[] }], W1, { target := .fn (.func gf) lb, args := #[.func (.yield (D + 1)) #[] #[]] }, W1, gf,
    #[.func (.yield (D + 1)) #[] #[]] ++ lb, W1, ?_, ?_, ?_, ?_, fun _ => h1, ?_⟩
  · rw [← hW1, hrec, ← hD]; exact run_enterLoop_outer _ _ _ _ _
  · simp only [resolve, hg]
    simp [go_sem]
  · intro f' hf'; simp [Target.leads] at hf'; subst hf'; exact hFg
  · simp [invoke, go_sem, eg]
  · refine (hseq (D + 1)
      (fun pre W => I pre W ∧ W.heap[D + 1]? = some (.loop (rec .ready none)) ∧ W.heap[D]? = some (.deferred (some [])))
      (fun pre W => ∃ c, Ix c pre W ∧ W.heap[D + 1]? = some (.loop (rec .done (some c))) ∧ W.heap[D]? = some (.deferred (some [])))
      W1 hb1 (by rw [← hW1]; simp)
      (fun pre A B hs hst => by
        have hz2 := (Array.getElem?_eq_some_iff.1 hs.2.1).1
        have hr := hSo A B hst (by omega)
        rw [hD] at hr
        exact ⟨hIS pre A B hs.1 hst, hr.2.trans hs.2.1, hr.1.trans hs.2.2⟩)
      ?_ ⟨hI1, hL1, hK1⟩).mono ?_
    · rintro pre x W hpf ⟨hi, hl, hk⟩
      have hlt : D + 1 < W.heap.size := (Array.getElem?_eq_some_iff.1 hl).1
      have hy := run_yield (P := P) (args := encs x) hl (by rw [hrec]; exact hps x)
      rw [hrec] at hy
      refine ⟨fn, _, assign, body, hy, roundIn_of_wpIn hfn (hassign _ pre x W _ (by omega) hi fun b V hrv hkv hiv hav => ?_)⟩
      rw [hD] at hrv
      have hlv : V.heap[D + 1]? = some (.loop (rec .ready none)) := hrv.2.trans hl
      have hkd : V.heap[D]? = some (.deferred (some [])) := hrv.1.trans hk
      have hltv : D + 1 < V.heap.size := (Array.getElem?_eq_some_iff.1 hlv).1
      refine ⟨_, run_beginRound hlv (by rw [hrec]), ?_⟩
      obtain ⟨W2, hW2⟩ : ∃ W2, V.putObj (D + 1) (.loop { rec .ready none with state := .busy }) = W2 := ⟨_, rfl⟩
      have hl2 : W2.heap[D + 1]? = some (.loop { rec .ready none with state := .busy }) := by rw [← hW2]; exact World.putObj_heap_same hltv
      have hk2 : W2.heap[D]? = some (.deferred (some [])) := by rw [← hW2]; exact (World.putObj_heap_other (by omega)).trans hkd
      have hw2 : Kp W W2 := by rw [← hW2]; exact hKt hkv (hKb _ _ _ _ (by omega) hlv)
      have hi2 : I pre W2 := by rw [← hW2]; exact hI.putObj _ hiv (by omega) hlv rfl
      have ha2 : As x b W2 := by rw [← hW2]; exact hAp _ _ _ _ _ _ hlv hav
      rw [hW2]
      refine wpIn_mono (hbody _ pre x b _ hpf (by have := (Array.getElem?_eq_some_iff.1 hl2).1; omega) hi2 ha2) ?_
      have fin : ∀ (jump : Option Code) (W3 : World), Rec2 w.heap.size W2 W3 →
          (Instr.endRound (D + 1) jump).run P W3 = .ok (.bool jump.isNone) (W3.putObj (D + 1) (.loop (rec (if jump.isNone then .ready else .done) jump))) ∧
          W3.heap[D + 1]? = some (.loop { rec .ready none with state := .busy }) ∧
          (W3.putObj (D + 1) (.loop (rec (if jump.isNone then .ready else .done) jump))).heap[D + 1]? = some (.loop (rec (if jump.isNone then .ready else .done) jump)) ∧
          (W3.putObj (D + 1) (.loop (rec (if jump.isNone then .ready else .done) jump))).heap[D]? = some (.deferred (some [])) := fun jump W3 hk3 => by
        rw [hD] at hk3
        have hl3 := hk3.2.trans hl2
        have := run_endRound (P := P) jump hl3
        rw [hrec] at this ⊢
        exact ⟨this, by rw [hrec] at hl3; exact hl3, World.putObj_heap_same (Array.getElem?_eq_some_iff.1 hl3).1, (World.putObj_heap_other (by omega)).trans (hk3.1.trans hk2)⟩
      rintro e a3 W3 hp
      cases e with
      | normal =>
        obtain ⟨hk3, hkp3, hi3⟩ := hp
        obtain ⟨hr, hl3, hl4, hk4⟩ := fin none W3 hk3
        exact ⟨_, _, hr, .inl ⟨rfl, ⟨hI.putObj _ hi3 (by omega) hl3 rfl, hl4, hk4⟩, hKt (hKt hw2 hkp3) (hKb _ _ _ _ (by omega) hl3)⟩⟩
      | ret =>
        obtain ⟨hk3, hi3⟩ := hp
        obtain ⟨hr, hl3, hl4, hk4⟩ := fin (some .ret) W3 hk3
        exact ⟨_, _, hr, .inr ⟨rfl, .ret, (hIx _).putObj _ hi3 (by omega) hl3 rfl, hl4, hk4⟩⟩
      | exit id =>
        obtain ⟨hk3, hi3⟩ := hp
        obtain ⟨hr, hl3, hl4, hk4⟩ := fin (some (.exit id)) W3 hk3
        exact ⟨_, _, hr, .inr ⟨rfl, .exit id, (hIx _).putObj _ hi3 (by omega) hl3 rfl, hl4, hk4⟩⟩
      | goto t =>
        obtain ⟨hk3, hi3⟩ := hp
        obtain ⟨hr, hl3, hl4, hk4⟩ := fin (some (.goto t)) W3 hk3
        exact ⟨_, _, hr, .inr ⟨rfl, .goto t, (hIx _).putObj _ hi3 (by omega) hl3 rfl, hl4, hk4⟩⟩
      | panic ch => exact hp.elim
      | outgrown => exact hp.elim
    · rintro e W2 ⟨⟨v, rfl⟩, (⟨xs, hS, hi, hl, hk⟩ | ⟨pre, hSp, c, hi, hl, hk⟩)⟩
      · exact ⟨none, _, by have := run_endLoop (P := P) hl (by rw [hrec]; simp); rw [hrec] at this; exact this, hdone _ xs _ (by omega) hS (hI.putObj _ hi (by omega) hl rfl) ((World.putObj_heap_other (by omega)).trans hk)⟩
      · exact ⟨some c, _, by have := run_endLoop (P := P) hl (by rw [hrec]; simp); rw [hrec] at this; exact this, hstop _ c pre _ (by omega) hSp ((hIx c).putObj _ hi (by omega) hl rfl) ((World.putObj_heap_other (by omega)).trans hk)⟩
end Go.Proofs.YtddlohbhchjjhaaGreatDoor

namespace Go.Proofs.YtddlohbhchjjhaaGreatDoor

section
variable {α : Type} {nx : α → List α} {s : α}
/-- whatever has been handed over with k + 1 steps comes from a label with k steps -/
def Par (nx : α → List α) (s : α) (pre : List (α × Nat)) : Prop := ∀ y ∈ pre, ∃ p, y.1 ∈ nx p.1 ∧ y.2 = p.2 + 1 ∧ (p = (s, 0) ∨ p ∈ pre)
def Few (pre : List (α × Nat)) : Prop := ∀ y ∈ pre, y.2 ≤ pre.length
/-- the numbers are least -/
def Lst (nx : α → List α) (s : α) (pre : List (α × Nat)) : Prop := ∀ y ∈ pre, ∃ k, y.2 = k + 1 ∧ Dst nx k s y.1
structure Bfs (nx : α → List α) (s : α) (pre todo : List (α × Nat)) : Prop where
  srch : Srch nx s (pre.map Prod.fst) (todo.map Prod.fst)
  par : Par nx s pre
  few : Few pre
  que : ∀ x ∈ todo, x = (s, 0) ∨ x ∈ pre
  fst : (pre = [] ∧ todo = [(s, 0)]) ∨ ((∀ y ∈ nx s, y ∈ pre.map Prod.fst) ∧ ∀ x ∈ todo, x.2 ≠ 0)
  lst : Lst nx s pre
  mono : todo.Pairwise (fun a b => a.2 ≤ b.2)
  near : ∀ x ∈ todo, ∀ y ∈ todo, y.2 ≤ x.2 + 1
structure BfsL (nx : α → List α) (s : α) (pre todo : List (α × Nat)) (p : α × Nat) (ys : List α) : Prop where
  look : Look nx s (pre.map Prod.fst) (todo.map Prod.fst) p.1 ys
  par : Par nx s pre
  few : Few pre
  que : ∀ x ∈ todo, x = (s, 0) ∨ x ∈ pre
  here : p = (s, 0) ∨ p ∈ pre
  fst : (p.1 = s) ∨ (∀ y ∈ nx s, y ∈ pre.map Prod.fst)
  pos : ∀ x ∈ todo, x.2 ≠ 0
  lst : Lst nx s pre
  mono : todo.Pairwise (fun a b => a.2 ≤ b.2)
  near : ∀ x ∈ todo, p.2 ≤ x.2 ∧ x.2 ≤ p.2 + 1
  lev : ∀ m, m < p.2 → ∀ x, Stp nx m s x → x ∈ pre.map Prod.fst
/-- whatever is reached in fewer steps than those in the queue has been met -/
theorem Bfs.lev {pre todo : List (α × Nat)} {D : Nat} (h : Bfs nx s pre todo) (hD : ∀ x ∈ todo, D ≤ x.2) : ∀ m, m < D → ∀ x, Stp nx m s x → x ∈ pre.map Prod.fst := by
  intro m
  induction m with
  | zero =>
    intro hm x hx
    rcases h.fst with ⟨_, e⟩ | ⟨e, _⟩
    · rw [e] at hD; have := hD (s, 0) (by simp); simp at this; omega
    · exact e x hx
  | succ m ih =>
    rintro hm x ⟨c, hc, hx⟩
    have hcm := ih (by omega) c hc
    rcases h.srch.done c (.inr hcm) with e | e
    · obtain ⟨q, hq, rfl⟩ := List.mem_map.1 e
      have hq2 := hD q hq
      rcases h.que q hq with e2 | e2
      · rw [e2] at hq2; simp at hq2; omega
      · obtain ⟨k, e3, e4⟩ := h.lst q e2
        exact absurd hc (e4.2 m (by omega))
    · exact e x hx
theorem Bfs.start (nx : α → List α) (s : α) : Bfs nx s [] [(s, 0)] :=
  ⟨Srch.start nx s, (fun y h => by cases h), (fun y h => by cases h), fun x h => .inl (List.mem_singleton.1 h), .inl ⟨rfl, rfl⟩, (fun y h => by cases h), List.pairwise_singleton _ _, fun x hx y hy => by rw [List.mem_singleton.1 hx, List.mem_singleton.1 hy]; simp⟩
theorem Bfs.look {pre todo : List (α × Nat)} {p : α × Nat} (h : Bfs nx s pre (p :: todo)) : BfsL nx s pre todo p (nx p.1) := by
  have hl := Srch.look (todo := todo.map Prod.fst) (p := p.1) h.srch
  have hmo := List.pairwise_cons.1 h.mono
  refine ⟨hl, h.par, h.few, fun x hx => h.que x (by simp [hx]), h.que p (by simp), ?_, ?_, h.lst, hmo.2, fun x hx => ⟨hmo.1 x hx, h.near p (by simp) x (by simp [hx])⟩, h.lev fun x hx => by
    rcases List.mem_cons.1 hx with rfl | hx
    · exact Nat.le_refl _
    · exact hmo.1 x hx⟩
  · rcases h.fst with ⟨_, e⟩ | ⟨e, _⟩
    · left; simp at e; rw [e.1]
    · exact .inr e
  · rcases h.fst with ⟨_, e⟩ | ⟨_, e⟩
    · simp at e; rw [e.2]; intro x hx; cases hx
    · exact fun x hx => e x (by simp [hx])
theorem Bfs.pass {pre todo : List (α × Nat)} {p : α × Nat} (h : Bfs nx s pre (p :: todo)) (h1 : p.1 = s) (h2 : p.2 ≠ 0) : Bfs nx s pre todo := by
  rcases h.fst with ⟨_, e⟩ | ⟨e, e2⟩
  · simp at e; rw [e.1] at h2; exact absurd rfl h2
  · exact ⟨Srch.pass (p := p.1) h.srch (by rw [h1]; exact e), h.par, h.few, fun x hx => h.que x (by simp [hx]), .inr ⟨e, fun x hx => e2 x (by simp [hx])⟩, h.lst, (List.pairwise_cons.1 h.mono).2, fun x hx y hy => h.near x (by simp [hx]) y (by simp [hy])⟩
theorem BfsL.skip {pre todo : List (α × Nat)} {p : α × Nat} {y : α} {ys : List α} (h : BfsL nx s pre todo p (y :: ys)) (hy : y ∈ pre.map Prod.fst) : BfsL nx s pre todo p ys :=
  ⟨h.look.skip hy, h.par, h.few, h.que, h.here, h.fst, h.pos, h.lst, h.mono, h.near, h.lev⟩
theorem BfsL.take {pre todo : List (α × Nat)} {p : α × Nat} {y : α} {ys : List α} (h : BfsL nx s pre todo p (y :: ys)) (hy : y ∉ pre.map Prod.fst) : BfsL nx s (pre ++ [(y, p.2 + 1)]) (todo ++ [(y, p.2 + 1)]) p ys := by
  have hm : ∀ l : List (α × Nat), (l ++ [(y, p.2 + 1)]).map Prod.fst = l.map Prod.fst ++ [y] := fun l => by simp
  refine ⟨?_, ?_, ?_, ?_, ?_, ?_, ?_, ?_, ?_, ?_, ?_⟩
  · rw [hm, hm]; exact h.look.take hy
  · intro z hz
    rcases List.mem_append.1 hz with hz | hz
    · obtain ⟨q, h1, h2, h3⟩ := h.par z hz
      refine ⟨q, h1, h2, ?_⟩
      rcases h3 with h3 | h3
      · exact .inl h3
      · exact .inr (List.mem_append_left _ h3)
    · rw [List.mem_singleton.1 hz]
      refine ⟨p, h.look.sub y (by simp), rfl, ?_⟩
      rcases h.here with h3 | h3
      · exact .inl h3
      · exact .inr (List.mem_append_left _ h3)
  · intro z hz
    rw [List.length_append]
    rcases List.mem_append.1 hz with hz | hz
    · have := h.few z hz; omega
    · rw [List.mem_singleton.1 hz]
      rcases h.here with h3 | h3
      · rw [h3]; simp
      · have := h.few p h3; simp; omega
  · intro z hz
    rcases List.mem_append.1 hz with hz | hz
    · rcases h.que z hz with h3 | h3
      · exact .inl h3
      · exact .inr (List.mem_append_left _ h3)
    · exact .inr (List.mem_append_right _ hz)
  · rcases h.here with h3 | h3
    · exact .inl h3
    · exact .inr (List.mem_append_left _ h3)
  · rcases h.fst with h3 | h3
    · exact .inl h3
    · exact .inr fun z hz => by rw [hm]; exact List.mem_append_left _ (h3 z hz)
  · intro z hz
    rcases List.mem_append.1 hz with hz | hz
    · exact h.pos z hz
    · rw [List.mem_singleton.1 hz]; simp
  · intro z hz
    rcases List.mem_append.1 hz with hz | hz
    · exact h.lst z hz
    · rw [List.mem_singleton.1 hz]
      refine ⟨p.2, rfl, ?_, fun m hm hs => hy (h.lev m hm y hs)⟩
      have hyp := h.look.sub y (by simp)
      rcases h.here with h3 | h3
      · rw [h3] at hyp ⊢; exact hyp
      · obtain ⟨k, e1, e2⟩ := h.lst p h3
        rw [e1]; exact ⟨p.1, e2.1, hyp⟩
  · refine List.pairwise_append.2 ⟨h.mono, List.pairwise_singleton _ _, fun a ha b hb => ?_⟩
    rw [List.mem_singleton.1 hb]; exact (h.near a ha).2
  · intro z hz
    rcases List.mem_append.1 hz with hz | hz
    · exact h.near z hz
    · rw [List.mem_singleton.1 hz]; simp
  · intro m hmm x hx
    rw [hm]; exact List.mem_append_left _ (h.lev m hmm x hx)
theorem BfsL.close {pre todo : List (α × Nat)} {p : α × Nat} (h : BfsL nx s pre todo p []) : Bfs nx s pre todo := by
  refine ⟨h.look.close, h.par, h.few, h.que, .inr ⟨?_, h.pos⟩, h.lst, h.mono, fun x hx y hy => by have := h.near x hx; have := h.near y hy; omega⟩
  rcases h.fst with h3 | h3
  · intro y hy
    exact (h.look.part y (by rw [h3]; exact hy)).resolve_right (by simp)
  · exact h3
/-- what is known whenever the search stops -/
structure Got (nx : α → List α) (s : α) (pre : List (α × Nat)) : Prop where
  nodup : (pre.map Prod.fst).Nodup
  sound : ∀ x ∈ pre.map Prod.fst, Rch nx s x
  par : Par nx s pre
  few : Few pre
  lst : Lst nx s pre
theorem Bfs.got {pre todo : List (α × Nat)} (h : Bfs nx s pre todo) : Got nx s pre := ⟨h.srch.nodup, h.srch.sound, h.par, h.few, h.lst⟩
theorem BfsL.got {pre todo : List (α × Nat)} {p : α × Nat} {ys : List α} (h : BfsL nx s pre todo p ys) : Got nx s pre := ⟨h.look.nodup, h.look.sound, h.par, h.few, h.lst⟩
theorem nodup_len : ∀ (l u : List α), l.Nodup → (∀ x ∈ l, x ∈ u) → l.length ≤ u.length
  | [], _, _, _ => Nat.zero_le _
  | x :: l, u, hn, hs => by
    obtain ⟨a, b, e⟩ := List.append_of_mem (hs x (by simp))
    subst e
    rw [List.nodup_cons] at hn
    have := nodup_len l (a ++ b) hn.2 (fun y hy => by
      have h := hs y (by simp [hy])
      rcases List.mem_append.1 h with h | h
      · exact List.mem_append_left _ h
      · rcases List.mem_cons.1 h with h | h
        · subst h; exact absurd hy hn.1
        · exact List.mem_append_right _ h)
    simp only [List.length_append, List.length_cons] at this ⊢
    omega
theorem Rch.mem {u : List α} (hu : ∀ x, ∀ y ∈ nx x, y ∈ u) {a b : α} (h : Rch nx a b) : b ∈ u := by
  obtain ⟨n, hn⟩ := h; exact hn.mem hu
theorem Got.len {pre : List (α × Nat)} {u : List α} (h : Got nx s pre) (hu : ∀ x, ∀ y ∈ nx x, y ∈ u) : pre.length ≤ u.length := by
  have := nodup_len _ u h.nodup (fun x hx => (h.sound x hx).mem hu)
  rwa [List.length_map] at this
theorem Bfs.end_ {pre : List (α × Nat)} (h : Bfs nx s pre []) (x : α) : x ∈ pre.map Prod.fst ↔ Rch nx s x := h.srch.end_ x
end
end Go.Proofs.YtddlohbhchjjhaaGreatDoor

namespace Go.Proofs.YtddlohbhchjjhaaGreatDoor
open Go.RowKit

section
variable {F : Fence} {n : Nat} {P : Program} {b : Frame} {a : Act} {k : List Item} {cs : List Frame} {w : World} {Q : Exit → Act → World → Prop}
theorem stepR_scope {c : Code} : step P (lone (b.atR a (.code (.scope c) :: k)) cs w) = .next (lone (b.atR a (.code c :: .inScope c :: k)) cs w) :=
  step_lone_go (by simp [stepG, stepG.exec, Frame.atR])
theorem stepR_inScope {c : Code} : step P (lone (b.atR a (.inScope c :: k)) cs w) = .next (lone (b.atR a k) cs w) :=
  step_lone_go (by simp [stepG, stepG.exec, Frame.atR])
theorem wpIn_scope_straight {c : Code} (h : c.wpIn F n P (Exit.noGoto Q) a w) : (Code.scope c).wpIn F n P Q a w := by
  intro b k cs hro hb hr
  have h0 : (lone (b.atR a (.code (.scope c) :: k)) cs w).fenced P F := fenced_calm hb hr rfl
  obtain ⟨e, a₁, w₁, hq, harr⟩ := h b (.inScope c :: k) cs hro hb hr
  cases e with
  | normal => exact ⟨.normal, a₁, w₁, hq, .head h0 stepR_scope (StepsIn.trans harr (.one (fenced_calm hb hr rfl) stepR_inScope))⟩
  | exit id =>
    have hx : exitTo id (.inScope c :: k) = exitTo id k := by simp [exitTo]
    exact ⟨.exit id, a₁, w₁, hq, fun k' hk => .head h0 stepR_scope (harr.1 k' (by rw [hx]; exact hk)),
      fun hr' hk => let ⟨k₁, h1, h2⟩ := harr.2 hr' (by rw [hx]; exact hk); ⟨k₁, h1, .head h0 stepR_scope h2⟩⟩
  | goto l => exact hq.elim
  | ret => exact ⟨_, a₁, w₁, hq, .of_steps (.one h0 stepR_scope) harr⟩
  | panic ch => exact ⟨_, a₁, w₁, hq, .of_steps (.one h0 stepR_scope) harr⟩
  | outgrown => exact ⟨_, a₁, w₁, hq, .of_steps (.one h0 stepR_scope) harr⟩
end
end Go.Proofs.YtddlohbhchjjhaaGreatDoor
