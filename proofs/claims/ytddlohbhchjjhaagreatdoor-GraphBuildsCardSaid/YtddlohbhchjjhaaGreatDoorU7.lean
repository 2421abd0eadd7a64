/-
  Lemmas: buildfile.Join, graph.loadFile, graph.checkTarget. graph.checkTarget. slices.SortFunc of targets by their labels. objectname.Valid. tree.isPath. strings.Builder in a block of the call's own: what its writers do at this program (copyCheck 80, WriteByte 79, WriteString 71, String 70). Encodings of numbers, texts and digests as lists of bytes, in plain Lean, and that reading undoes writing. No program in sight. codec.digits, writeInt, PutInt and PutText. codec.PutInt and PutText, cordwoodref01.put, PutInt and PutText. A slice of bytes that may be appended to, whatever mark its block bears behind its last cell ([]byte(s) too): what it holds, and append.
-/
import Derived.Lib.Builder
import Derived.Lib.AppendStr
import Derived.Lib.UnsafeStr
import Derived.Laws.Externs
import Derived.Deep.QuietTactic
import Derived.BigQuiet
import Derived.Deep.AppendSrc
import Derived.Deep.Upon
import Derived.Lib.ConvBytes
import Derived.Laws.IdiomStrings
import Derived.Laws.BytesArg
import Derived.Test.YtddlohbhchjjhaaGreatDoorU6

namespace Go.Proofs.YtddlohbhchjjhaaGreatDoor
open Go.RowKit Go.Shelf Go.Maps
attribute [local go_sem] Oper.semAt_some

def slW : ByteArray := ⟨#[47]⟩
def joiS (d n : ByteArray) : ByteArray := if d = ⟨#[]⟩ then n else d ++ slW ++ n
def joiE (d n : ByteArray) : Int := if (d ≠ ⟨#[]⟩ ∧ labB d = false) ∨ namT n = false then 6 else if d = ⟨#[]⟩ then 0 else if labB (d ++ slW ++ n) = false then 4 else 0
def joiV (d n : ByteArray) : ByteArray := if joiE d n = 0 then joiS d n else ⟨#[]⟩
def JoiEnd (d n : ByteArray) (w : World) (e : Ending) (w' : World) : Prop := e = .returned (.tuple #[.string (joiV d n), .int .i64 (joiE d n)]) ∧ Below w.heap.size w w'
theorem joiV_no {d n : ByteArray} {v : Int} (h : joiE d n = v) (hv : v ≠ 0) : joiV d n = ⟨#[]⟩ := if_neg (by rw [h]; exact hv)
theorem JoiEnd.no {d n : ByteArray} {w w' : World} {v : Int} (h : joiE d n = v) (hv : v ≠ 0) (hb : Below w.heap.size w w') : JoiEnd d n w (.returned (.tuple #[.string ⟨#[]⟩, .int .i64 v])) w' := ⟨by rw [joiV_no h hv, h], hb⟩
theorem JoiEnd.yes {d n s : ByteArray} {w w' : World} (h : joiE d n = 0) (hs : joiS d n = s) (hb : Below w.heap.size w w') : JoiEnd d n w (.returned (.tuple #[.string s, .int .i64 0])) w' := ⟨by rw [joiV, if_pos h, h, hs], hb⟩
set_option maxHeartbeats 1000000 in
theorem join_any (d n : ByteArray) (w : World) (hd : d.size ≤ 1000000) (hn : n.size ≤ 1000000) : Calls Tryz.prog 95 #[.string d, .string n] w (JoiEnd d n w) := by
  have hdm : d.size ≤ maxLen := by unfold maxLen; omega
  have hnm : n.size ≤ maxLen := by unfold maxLen; omega
  have h1 : (d.toList == []) = decide (d = ⟨#[]⟩) := str_lit d _
  go_enter Tryz.func95, Tryz.ntmps95
  by_cases e1 : d = ⟨#[]⟩
  · rw [decide_eq_true e1] at h1
    cases hnt : namT n with
    | false =>
      have HE : Hid (joiE d n = 6) := if_pos (.inr hnt)
      have HT := Lib.hid hnt
      clear hnt e1
      go_wp2_with (go_at_call 142; refine (targetName_any _ _ hnm).mono ?_; rintro e w1 ⟨rfl, hb⟩; rw [HT.out])
      go_ret2
      exact JoiEnd.no HE.out (by decide) hb
    | true =>
      have HE : Hid (joiE d n = 0) := by show _ = _; unfold joiE; rw [if_neg (by rw [hnt]; simp [e1]), if_pos e1]
      have HS : Hid (joiS d n = n) := if_pos e1
      have HT := Lib.hid hnt
      clear hnt e1
      go_wp2_with (go_at_call 142; refine (targetName_any _ _ hnm).mono ?_; rintro e w1 ⟨rfl, hb⟩; rw [HT.out])
      go_ret2
      exact JoiEnd.yes HE.out HS.out hb
  · rw [decide_eq_false e1] at h1
    cases hl : labB d with
    | false =>
      have HE : Hid (joiE d n = 6) := if_pos (.inl ⟨e1, hl⟩)
      have HL := Lib.hid hl
      clear hl e1
      go_wp2_with (go_at_call 79; refine (label_any _ _ hdm).mono ?_; rintro e w1 ⟨rfl, hb⟩; rw [HL.out])
      go_ret2
      exact JoiEnd.no HE.out (by decide) hb
    | true =>
      have HL := Lib.hid hl
      cases hnt : namT n with
      | false =>
        have HE : Hid (joiE d n = 6) := if_pos (.inr hnt)
        have HT := Lib.hid hnt
        clear hnt e1 hl
        go_wp2_with (first
          | (go_at_call 79; refine (label_any _ _ hdm).mono ?_; rintro e w1 ⟨rfl, hb⟩; rw [HL.out])
          | (go_at_call 142; refine (targetName_any _ _ hnm).mono ?_; rintro e w2 ⟨rfl, hb2⟩; rw [HT.out]))
        go_ret2
        exact JoiEnd.no HE.out (by decide) (hb.trans (hb2.mono hb.size))
      | true =>
        have HT := Lib.hid hnt
        have HE0 : Hid (joiE d n = if labB (d ++ slW ++ n) = false then 4 else 0) := by show _ = _; unfold joiE; rw [if_neg (by rw [hnt, hl]; simp), if_neg e1]
        have HS : Hid (joiS d n = d ++ slW ++ n) := if_neg e1
        have hcat : ¬ (9223372036854775807 < d.size + (⟨#[47]⟩ : ByteArray).size) := by
          have : (⟨#[47]⟩ : ByteArray).size = 1 := rfl
          omega
        have hsz : (d ++ (⟨#[47]⟩ : ByteArray)).size = d.size + 1 := by rw [ByteArray.size_append]; rfl
        have hcat2 : ¬ (9223372036854775807 < (d ++ (⟨#[47]⟩ : ByteArray)).size + n.size) := by omega
        have hsz2 : (d ++ (⟨#[47]⟩ : ByteArray) ++ n).size ≤ maxLen := by rw [ByteArray.size_append, hsz]; unfold maxLen; omega
        obtain ⟨full, hfull⟩ : ∃ full, d ++ (⟨#[47]⟩ : ByteArray) ++ n = full := ⟨_, rfl⟩
        have HFU := Lib.hid hfull
        have HFU2 : Hid (d ++ slW ++ n = full) := hfull
        rw [HFU2.out] at HE0 HS
        rw [hfull] at hsz2
        clear hnt e1 hl hsz hfull
        cases hlf : labB full with
        | false =>
          have HE : Hid (joiE d n = 4) := by show _ = _; rw [HE0.out, if_pos hlf]
          have HLF := Lib.hid hlf
          clear hlf HE0
          go_wp2_with (first
            | (go_at_call 142; refine (targetName_any _ _ hnm).mono ?_; rintro e w2 ⟨rfl, hb2⟩; rw [HT.out]; refine halt_ ?_)
            | (go_at_call 79; refine (label_any _ _ hdm).mono ?_; rintro e w1 ⟨rfl, hb⟩; rw [HL.out]))
          refine unhalt ?_
          go_wp2_with (go_at_call 79; rw [HFU.out]; refine (label_any _ _ hsz2).mono ?_; rintro e w3 ⟨rfl, hb3⟩; rw [HLF.out])
          go_ret2
          exact JoiEnd.no HE.out (by decide) (hb.trans ((hb2.mono hb.size).trans (hb3.mono (Nat.le_trans hb.size hb2.size))))
        | true =>
          have HE : Hid (joiE d n = 0) := by show _ = _; rw [HE0.out, if_neg (by rw [hlf]; decide)]
          have HLF := Lib.hid hlf
          clear hlf HE0
          go_wp2_with (first
            | (go_at_call 142; refine (targetName_any _ _ hnm).mono ?_; rintro e w2 ⟨rfl, hb2⟩; rw [HT.out]; refine halt_ ?_)
            | (go_at_call 79; refine (label_any _ _ hdm).mono ?_; rintro e w1 ⟨rfl, hb⟩; rw [HL.out]))
          refine unhalt ?_
          go_wp2_with (go_at_call 79; rw [HFU.out]; refine (label_any _ _ hsz2).mono ?_; rintro e w3 ⟨rfl, hb3⟩; rw [HLF.out])
          go_ret2
          exact JoiEnd.yes HE.out (by rw [HS.out, ← HFU.out]) (hb.trans ((hb2.mono hb.size).trans (hb3.mono (Nat.le_trans hb.size hb2.size))))
theorem labB_size {s : ByteArray} (h : labB s = true) : s.size ≤ 90 := by
  unfold labB labL at h
  rw [Bool.and_eq_true, decide_eq_true_eq] at h
  rw [size_len]; exact h.1
theorem freB_size {s : ByteArray} (h : freB s = true) : s.size ≤ 90 := by
  unfold freB namT at h
  rw [Bool.and_eq_true, Bool.and_eq_true] at h
  exact labB_size h.1.1
theorem ruleE_ok {r : Tg} (h : ruleE r = 0) : freB r.lab = true ∧ r.deps.length ≤ 20 ∧ r.vis.length ≤ 20 ∧ (r.kind = 1 ∨ r.kind = 2) ∧ elE frlB [] r.deps = 0 ∧ elE viewB [] r.vis = 0 := by
  unfold ruleE at h
  split at h
  · cases h
  rename_i h1
  split at h
  · cases h
  rename_i h2
  split at h
  · cases h
  rename_i h3
  split at h
  · rename_i h4; exact absurd h h4
  rename_i h4
  refine ⟨by simpa using h2, by omega, by omega, ?_, Classical.byContradiction h4, h⟩
  by_cases e : r.kind = 1
  · exact .inl e
  · exact .inr (Classical.byContradiction fun e2 => h1 ⟨e, e2⟩)
theorem chkE_ok : ∀ {seen : List ByteArray} {rs : List Tg}, chkE seen rs = 0 → ∀ r ∈ rs, ruleE r = 0
  | _, [], _, r, hr => by cases hr
  | seen, q :: rs, h, r, hr => by
    simp only [chkE] at h
    split at h
    · rename_i h1; exact absurd h h1
    rename_i h1
    split at h
    · cases h
    rcases List.mem_cons.1 hr with rfl | hr
    · exact Classical.byContradiction h1
    · exact chkE_ok h r hr
theorem checkE_ok {rs : List Tg} (h : checkE rs = 0) : rs.length ≤ 100 ∧ ∀ r ∈ rs, ruleE r = 0 := by
  unfold checkE at h
  split at h
  · cases h
  · exact ⟨by omega, chkE_ok h⟩

def lfE (d : ByteArray) : List Ct → Int
  | [] => 0
  | c :: cs => if joiE d c.2.1 ≠ 0 then joiE d c.2.1 else lfE d cs
def jnT (d : ByteArray) (r : Tg) : Tg := { r with lab := joiS d r.lab }
def jnC (d : ByteArray) (c : Ct) : Ct := (c.1, joiS d c.2.1, c.2.2)
theorem ct_jn (d : ByteArray) (rs : List Tg) : (rs.map (jnT d)).map ct = (rs.map ct).map (jnC d) := by simp [List.map_map, Function.comp_def, ct, jnT, jnC]
theorem lfE_at {d : ByteArray} : ∀ {rs : List Tg} {k : Nat} {r : Tg}, (∀ q ∈ rs.take k, joiE d q.lab = 0) → rs[k]? = some r → joiE d r.lab ≠ 0 → lfE d (rs.map ct) = joiE d r.lab
  | [], _, _, _, h, _ => by simp at h
  | q :: rs, 0, r, _, h, hr => by
    simp at h; subst h
    simp only [List.map_cons, lfE]; exact if_pos hr
  | q :: rs, k + 1, r, h0, h, hr => by
    simp only [List.map_cons, lfE]
    rw [if_neg (fun hn => hn (h0 q (by simp)))]
    exact lfE_at (k := k) (fun x hx => h0 x (by simp [hx])) (by simpa using h) hr
theorem lfE_all {d : ByteArray} : ∀ {rs : List Tg}, (∀ q ∈ rs, joiE d q.lab = 0) → lfE d (rs.map ct) = 0
  | [], _ => rfl
  | q :: rs, h => by
    simp only [List.map_cons, lfE]
    rw [if_neg (fun hn => hn (h q (by simp)))]
    exact lfE_all (fun x hx => h x (by simp [hx]))
def LfR (f : Fl) (cs : List Ct) (err : Int) : Prop :=
  ((dirS f.1 ≠ ⟨#[]⟩ ∧ labB (dirS f.1) = false) ∧ cs = [] ∧ err = 6) ∨
  (¬ (dirS f.1 ≠ ⟨#[]⟩ ∧ labB (dirS f.1) = false) ∧ ∃ ds at_ e1, ParR f.2 ds at_ e1 ∧ ((e1 ≠ 0 ∧ cs = [] ∧ err = e1) ∨ (e1 = 0 ∧ lfE (dirS f.1) ds ≠ 0 ∧ cs = [] ∧ err = lfE (dirS f.1) ds) ∨ (e1 = 0 ∧ lfE (dirS f.1) ds = 0 ∧ cs = ds.map (jnC (dirS f.1)) ∧ err = 0)))
theorem LfR.same {f : Fl} {cs ds : List Ct} {a b : Int} (h : LfR f cs a) (g : LfR f ds b) : cs = ds ∧ a = b := by
  rcases h with ⟨h0, rfl, rfl⟩ | ⟨h0, us, x, y, hp, h⟩
  · rcases g with ⟨_, rfl, rfl⟩ | ⟨g0, _⟩
    · exact ⟨rfl, rfl⟩
    · exact absurd h0 g0
  · rcases g with ⟨g0, _⟩ | ⟨_, vs, x', y', gp, g⟩
    · exact absurd g0 h0
    obtain ⟨rfl, rfl, rfl⟩ := hp.same gp
    rcases h with ⟨h1, rfl, rfl⟩ | ⟨h1, h2, rfl, rfl⟩ | ⟨h1, h2, rfl, rfl⟩
    · rcases g with ⟨g1, rfl, rfl⟩ | ⟨g1, _⟩ | ⟨g1, _⟩
      · exact ⟨rfl, rfl⟩
      · exact absurd g1 h1
      · exact absurd g1 h1
    · rcases g with ⟨g1, _⟩ | ⟨g1, g2, rfl, rfl⟩ | ⟨g1, g2, _⟩
      · exact absurd h1 g1
      · exact ⟨rfl, rfl⟩
      · exact absurd g2 h2
    · rcases g with ⟨g1, _⟩ | ⟨g1, g2, _⟩ | ⟨g1, g2, rfl, rfl⟩
      · exact absurd h1 g1
      · exact absurd h2 g2
      · exact ⟨rfl, rfl⟩
theorem parR_rules {s : ByteArray} {rs : List Tg} {a : Int} (h : ParR s (rs.map ct) a 0) : rs.length ≤ 100 ∧ ∀ r ∈ rs, ruleE r = 0 := by
  rcases h with ⟨_, _, _, h⟩ | ⟨_, ws, _, ⟨_, _, _, h⟩ | ⟨x, xs, _, _, _, h⟩ | ⟨ds, _, ⟨h1, _, _, h⟩ | ⟨h1, h2, _⟩⟩⟩
  · cases h
  · cases h
  · cases h
  · exact absurd h.symm h1
  · rw [← h2, checkC_ct] at h1
    exact checkE_ok h1
def LfEnd (f : Fl) (w : World) (e : Ending) (w' : World) : Prop :=
  ∃ A n c rs err, e = .returned (.tuple #[.slice A n c, .int .i64 err]) ∧ Sl w' w'.heap.size 4 A n (flat tgC rs) ∧ (∀ t ∈ rs, TgX w' 0 t) ∧ n ≤ c ∧ c ≤ maxLen ∧ LfR f (rs.map ct) err ∧ Below w.heap.size w w'
theorem LfEnd.none_ {f : Fl} {w w' : World} {err : Int} (h : LfR f [] err) (hb : Below w.heap.size w w') : LfEnd f w (.returned (.tuple #[.slice none 0 0, .int .i64 err])) w' :=
  ⟨none, 0, 0, [], err, rfl, Sl.nil _ _ _ _, (fun t h => by cases h), Nat.le_refl _, Nat.zero_le _, h, hb⟩
theorem below_of_grown {w w' : World} {B : Nat} {row : Option Nat} (hg : w.grownBy w' row) (hr : ∀ k, row = some k → B ≤ k) (hB : B ≤ w.heap.size) : Below B w w' :=
  ((Below.refl B w)).grown hg hB hr
theorem infoTgt : (Tryz.prog.info? 35).map (fun i => (i.zero, i.size, i.bytes)) = some (some (.agg #[.string ⟨#[]⟩, .int .i64 0, .slice none 0 0, .slice none 0 0]), 4, 72) := by kernel_rfl
set_option maxRecDepth 100000 in
set_option maxHeartbeats 4000000 in
theorem loadFile_any (f : Fl) (w : World) (h1 : f.1.size ≤ 1000000) (h2 : f.2.size ≤ 1000000) : Calls Tryz.prog 49 #[.agg #[.string f.1, .string f.2]] w (LfEnd f w) := by
  obtain ⟨path, data⟩ := f
  simp only at h1 h2
  have hdm : (dirS path).size ≤ 1000000 := Nat.le_trans (dir_size path) h1
  obtain ⟨w0, hw0⟩ : ∃ w0, w.alloc (.cells #[.string path, .string data] 42) = w0 := ⟨_, rfl⟩
  have HB0 : Hid (Below w.heap.size w w0) := by show Below _ _ _; rw [← hw0]; exact (Below.refl _ w).alloc (Nat.le_refl _) _
  have hK0 : Bk w0 w.heap.size 42 #[.string path, .string data] := by rw [← hw0]; exact Bk.new w _ _
  have HK0 := Lib.hid hK0
  have y0 := hK0.cell 0; have y1 := hK0.cell 1
  simp only [List.getElem?_toArray, List.getElem?_cons_zero, List.getElem?_cons_succ] at y0 y1
  have HW0 := Lib.hid hw0
  clear hw0 hK0
  go_enter Tryz.func49, Tryz.ntmps49
  obtain ⟨d, hd⟩ : ∃ d, dirS path = d := ⟨_, rfl⟩
  have HD := Lib.hid hd
  have HDR := Lib.hid (directory_any path w0 h1)
  rw [hd] at HDR hdm
  have hdm2 : d.size ≤ maxLen := by unfold maxLen; omega
  clear hd
  have h1 : (d.toList == []) = decide (d = ⟨#[]⟩) := str_lit d _
  have HPA := Lib.hid (parse_any data)
  go_wp2_with (go_at_call 48; rw [HW0.out]; refine HDR.out.mono ?_; rintro e w1 ⟨rfl, rfl⟩; refine halt_ ?_)
  refine unhalt ?_
  have hdat : data.size ≤ maxLen := by unfold maxLen; omega
  have HLR : Hid (¬ (d ≠ ⟨#[]⟩ ∧ labB d = false) → ∀ cs err, (∃ ds at_ e1, ParR data ds at_ e1 ∧ ((e1 ≠ 0 ∧ cs = [] ∧ err = e1) ∨ (e1 = 0 ∧ lfE d ds ≠ 0 ∧ cs = [] ∧ err = lfE d ds) ∨ (e1 = 0 ∧ lfE d ds = 0 ∧ cs = ds.map (jnC d) ∧ err = 0))) → LfR (path, data) cs err) := fun h0 cs err h => .inr ⟨by rw [HD.out]; exact h0, by rw [HD.out]; exact h⟩
  have HL6 : Hid ((d ≠ ⟨#[]⟩ ∧ labB d = false) → LfR (path, data) [] 6) := fun h => .inl ⟨by rw [HD.out]; exact h, rfl, rfl⟩
  obtain ⟨i0, hi, hz0, hz1', hz2'⟩ := info_parts infoTgt
  have Hi := Lib.hid hi; have Hz0 := Lib.hid hz0; have Hz1 := Lib.hid hz1'; have Hz2 := Lib.hid hz2'
  clear hi hz0 hz1' hz2'
  have hz00 : w.heap.size < w0.heap.size := HK0.out.lt
  rcases (show d = ⟨#[]⟩ ∨ (d ≠ ⟨#[]⟩ ∧ labB d = true) ∨ (d ≠ ⟨#[]⟩ ∧ labB d = false) by
    by_cases e : d = ⟨#[]⟩
    · exact .inl e
    · cases hl : labB d with
      | true => exact .inr (.inl ⟨e, rfl⟩)
      | false => exact .inr (.inr ⟨e, rfl⟩)) with e1 | ⟨e1, hl⟩ | ⟨e1, hl⟩
  rotate_left 2
  · have HF := HL6.out ⟨e1, hl⟩
    rw [decide_eq_false e1] at h1
    have HL := Lib.hid hl; have HFF := Lib.hid HF
    clear hl e1 HF
    go_wp2_with (go_at_call 79; refine (label_any _ _ hdm2).mono ?_; rintro e w1 ⟨rfl, hb⟩; rw [HL.out])
    go_ret2
    exact LfEnd.none_ HFF.out (HB0.out.trans (hb.mono HB0.out.size))
  · rw [decide_eq_true e1] at h1
    have HLC := Lib.hid (HLR.out (fun h => h.1 e1))
    clear e1 HLR HL6
    go_wp2_with (go_at_call 94; refine (HPA.out _ hdat).mono ?_; rintro e w2 ⟨A, n, c, at_, err, rs, rfl, hsl, hok, hnc, hcm, hpr, hb2⟩; refine halt_ ?_)
    have HB2 : Hid (Below w.heap.size w w2) := HB0.out.trans (hb2.mono HB0.out.size)
    clear hb2
    refine unhalt ?_
    have HLN := Lib.hid (hsl.len rlC_len (by omega))
    have HSL := Lib.hid hsl; have HOK := Lib.hid hok; have HPR := Lib.hid hpr
    clear hsl hok hpr
    by_cases he : err = 0
    · subst he
      have hru := parR_rules HPR.out
      have hn100 : n ≤ 100 := by rw [← HLN.out]; exact hru.1
      have HRU := Lib.hid hru.2
      have hz02 := HB2.out.size
      clear hru
      go_wp2
      go_loopw [8, 35] (fun q i wr => ∃ (k : Nat) (Al : Option Addr) (cl : Nat), q = .slice Al k cl ∧ i = .int .i64 (k : Int) ∧ k ≤ n ∧ Hid (wr.ownsRow w2.heap.size 35 4 (.slice Al k cl) k (flat tgC ((rs.take k).map (jnT d)))) ∧ Hid (∀ r ∈ rs.take k, joiE d r.lab = 0) ∧ Hid (Below w2.heap.size w2 wr)) (fun _ i _ => n - (intOf i).toNat)
      case atStart => exact ⟨0, none, 0, rfl, rfl, Nat.zero_le _, World.ownsRow_nil _ _ _ _, (fun r h => by simp at h), Below.refl _ _⟩
      case round =>
        obtain ⟨k, Al, cl, rfl, rfl, hk, hO, hZ, hBw⟩ := hrel
        have hzr := hBw.out.size
        by_cases hlt : k < n
        · obtain ⟨bb, off, r, rfl, hbB, hr, z0, z1, z2, z3⟩ := (HSL.out.below hBw.out (Nat.le_refl _)).rl hlt
          have hlz : (k : Int) < (n : Int) := by omega
          have hrs : r.lab.size ≤ 1000000 := by have := freB_size (ruleE_ok (HRU.out r (List.mem_of_getElem? hr))).1; omega
          have HR := Lib.hid hr
          obtain ⟨wb, hwb⟩ : ∃ wb, wr.alloc (.cells #[.int .i64 r.kind, .string r.lab, .slice r.dA r.dn r.dc, .slice r.vA r.vn r.vc] 60) = wb := ⟨_, rfl⟩
          have hKb : Bk wb wr.heap.size 60 #[.int .i64 r.kind, .string r.lab, .slice r.dA r.dn r.dc, .slice r.vA r.vn r.vc] := by rw [← hwb]; exact Bk.new wr _ _
          have HBb : Hid (Below wr.heap.size wr wb) := by show Below _ _ _; rw [← hwb]; exact (Below.refl _ wr).alloc (Nat.le_refl _) _
          have hzb : wr.heap.size < wb.heap.size := hKb.lt
          have b1 := hKb.cell 1
          simp only [List.getElem?_toArray, List.getElem?_cons_zero, List.getElem?_cons_succ] at b1
          have HJ := Lib.hid (join_any d r.lab wb hdm hrs)
          have HKb := Lib.hid hKb; have HWb := Lib.hid hwb
          clear hwb hKb hr
          by_cases hj : joiE d r.lab = 0
          · have HJE := Lib.hid hj
            have HZ2 : Hid (∀ q ∈ rs.take (k + 1), joiE d q.lab = 0) := fun q hq => by
              rw [take_snoc HR.out] at hq
              rcases List.mem_append.1 hq with hq | hq
              · exact hZ.out q hq
              · rw [List.mem_singleton.1 hq]; exact HJE.out
            have HJV : Hid (joiV d r.lab = joiS d r.lab) := if_pos hj
            clear hj
            go_wp2_with (go_at_call 95; rw [HWb.out]; refine HJ.out.mono ?_; rintro e w5 ⟨rfl, hb5⟩; rw [HJE.out, HJV.out]; refine halt_ ?_)
            refine unhalt ?_
            have hK5 := HKb.out.below hb5 hzb
            have b0 := hK5.cell 0; have b2 := hK5.cell 2; have b3 := hK5.cell 3
            simp only [List.getElem?_toArray, List.getElem?_cons_zero, List.getElem?_cons_succ] at b0 b2 b3
            have HB5 : Hid (Below wr.heap.size wr w5) := HBb.out.trans (hb5.mono (by omega))
            have HO5 : Hid (w5.ownsRow w2.heap.size 35 4 (.slice Al k cl) k (flat tgC ((rs.take k).map (jnT d)))) := own_keep hO.out (fun j hj => by
              obtain ⟨h1, cur, h2⟩ := own_row hO.out hj
              exact HB5.out.block j (Array.getElem?_eq_some_iff.1 h2).1)
            have hz5 := HB5.out.size
            clear hK5 hb5 HJ b1 z0 z1 z2 z3
            go_wp2_with (at_builtin; refine halt_apx (.tmp 49) (.tmp 58) 25 rfl ?_)
            refine unhalt ?_
            refine wpList_append_sl (base := w2.heap.size) (size := 4) _ rfl (.tmp 49) (.tmp 58) 25 rfl 35 i0 _ 72 Tryz.underlying25 Hi.out Hz0.out Hz1.out Hz2.out rfl (by decide) (.slice Al k cl) k (flat tgC ((rs.take k).map (jnT d))) rfl ?own_1 (w5.heap.size + 1) _ 1 _ (tgC (jnT d r)) rfl ?nw_1 (by simp [tgC, Value.oneCell']) ?m1_1 ?m2_1 ?m3_1 ?_
            case own_1 => exact HO5.out.kept (World.grownBy_alloc w5 _ none) (by cases hv : (Value.slice Al k cl).ownBlock with | none => exact .inl rfl | some k => exact .inr (by simp))
            case nw_1 => exact ⟨rfl, fun _ => ⟨w5.heap.size, 0, rfl, Nat.lt_succ_self _, fun j u hu => by have := new_cells w5 35 (tgC (jnT d r)) j u hu; rwa [Addr.add_lit] at this⟩⟩
            case m1_1 => unfold maxLen; omega
            case m2_1 => omega
            case m3_1 => simp; omega
            intro A6 q6 w6 ho6 hg6 hc61 hc62
            have HO6 : Hid (w6.ownsRow w2.heap.size 35 4 (.slice A6 (k + 1) q6) (k + 1) (flat tgC ((rs.take (k + 1)).map (jnT d)))) := by
              show World.ownsRow _ _ _ _ _ _ _
              rw [take_snoc HR.out, List.map_append, flat_append]; simpa [flat] using ho6
            have HB6 : Hid (Below w2.heap.size w2 w6) := hBw.out.trans (((HB5.out.alloc (by omega) _).mono (by omega)).trans (below_of_grown hg6 (fun j hj => (own_row HO5.out hj).1) (by simp; omega)))
            clear ho6 hg6
            go_wp2_with fail
            go_roundw
            case rel => exact ⟨k + 1, A6, q6, rfl, by go_num, hlt, HO6.out, HZ2.out, HB6.out⟩
            case measure => simp [intOf]; omega
          · have HLF : Hid (lfE d (rs.map ct) = joiE d r.lab) := lfE_at hZ.out HR.out hj
            have HJN := Lib.hid hj
            have hj' : (joiE d r.lab != 0) = true := by simpa using hj
            obtain ⟨v, hve⟩ : ∃ v, joiE d r.lab = v := ⟨_, rfl⟩
            rw [hve] at HLF HJN hj'
            have HFF := Lib.hid (HLC.out [] v ⟨_, _, _, HPR.out, .inr (.inl ⟨rfl, by rw [HLF.out]; exact HJN.out, rfl, HLF.out.symm⟩)⟩)
            have HVE := Lib.hid hve
            clear hj hve
            go_wp2_with (go_at_call 95; rw [HWb.out]; refine HJ.out.mono ?_; rintro e w5 ⟨rfl, hb5⟩; rw [HVE.out])
            go_ret2
            exact LfEnd.none_ HFF.out (HB2.out.trans ((hBw.out.trans ((HBb.out.trans (hb5.mono (by omega))).mono hzr)).mono hz02))
        · have hlz : ¬ (k : Int) < (n : Int) := by omega
          obtain rfl : k = n := by omega
          have HT : Hid (rs.take k = rs) := List.take_of_length_le (by rw [HLN.out]; exact Nat.le_refl _)
          go_wp2_with fail
          go_ret2
          have hO2 := hO.out
          have hZ2 := hZ.out
          rw [HT.out] at hO2 hZ2
          obtain ⟨_, _, hform, hl1, hl2⟩ := ownsRow_form hO2
          injection hform with _ _ hcc
          subst hcc
          refine ⟨Al, k, cl, rs.map (jnT d), 0, rfl, Sl.of_own hO2, fun t ht => ?_, hl1, hl2, HLC.out _ _ ⟨_, _, _, HPR.out, .inr (.inr ⟨rfl, lfE_all hZ2, ct_jn d rs, rfl⟩)⟩, HB2.out.trans (hBw.out.mono hz02)⟩
          obtain ⟨r, hr, rfl⟩ := List.mem_map.1 ht
          have ho := (HOK.out r hr).step (BelowX.of_below hBw.out (Nat.zero_le _))
          have hrs := freB_size (ruleE_ok (HRU.out r hr)).1
          exact ⟨ho.d, ho.v, by
            show (joiS d r.lab).size ≤ maxLen
            unfold joiS
            split
            · unfold maxLen; omega
            · rw [ByteArray.size_append, ByteArray.size_append]; have : slW.size = 1 := rfl; unfold maxLen; omega, ho.ds, ho.vs⟩
    · have HFF := Lib.hid (HLC.out [] err ⟨_, _, _, HPR.out, .inl ⟨he, rfl, rfl⟩⟩)
      have he' : (err != 0) = true := by simpa using he
      clear he
      go_wp2_with fail
      go_ret2
      exact LfEnd.none_ HFF.out HB2.out
  · rw [decide_eq_false e1] at h1
    have HLC := Lib.hid (HLR.out (fun h => by rw [hl] at h; cases h.2))
    have HL := Lib.hid hl
    clear e1 HLR HL6 hl
    go_wp2_with (go_at_call 79; refine (label_any _ _ hdm2).mono ?_; rintro e w1 ⟨rfl, hb⟩; rw [HL.out]; refine halt_ ?_)
    refine unhalt ?_
    have y1 : w1.cell? ⟨w.heap.size, 1, none⟩ = some (.string data) := by have := (HK0.out.below hb hz00).cell 1; simpa using this
    have HB1 : Hid (Below w.heap.size w w1) := HB0.out.trans (hb.mono HB0.out.size)
    clear hb y0
    go_wp2_with (go_at_call 94; refine (HPA.out _ hdat).mono ?_; rintro e w2 ⟨A, n, c, at_, err, rs, rfl, hsl, hok, hnc, hcm, hpr, hb2⟩; refine halt_ ?_)
    have HB2 : Hid (Below w.heap.size w w2) := HB1.out.trans (hb2.mono HB1.out.size)
    clear hb2
    refine unhalt ?_
    have HLN := Lib.hid (hsl.len rlC_len (by omega))
    have HSL := Lib.hid hsl; have HOK := Lib.hid hok; have HPR := Lib.hid hpr
    clear hsl hok hpr
    by_cases he : err = 0
    · subst he
      have hru := parR_rules HPR.out
      have hn100 : n ≤ 100 := by rw [← HLN.out]; exact hru.1
      have HRU := Lib.hid hru.2
      have hz02 := HB2.out.size
      clear hru
      go_wp2
      go_loopw [8, 35] (fun q i wr => ∃ (k : Nat) (Al : Option Addr) (cl : Nat), q = .slice Al k cl ∧ i = .int .i64 (k : Int) ∧ k ≤ n ∧ Hid (wr.ownsRow w2.heap.size 35 4 (.slice Al k cl) k (flat tgC ((rs.take k).map (jnT d)))) ∧ Hid (∀ r ∈ rs.take k, joiE d r.lab = 0) ∧ Hid (Below w2.heap.size w2 wr)) (fun _ i _ => n - (intOf i).toNat)
      case atStart => exact ⟨0, none, 0, rfl, rfl, Nat.zero_le _, World.ownsRow_nil _ _ _ _, (fun r h => by simp at h), Below.refl _ _⟩
      case round =>
        obtain ⟨k, Al, cl, rfl, rfl, hk, hO, hZ, hBw⟩ := hrel
        have hzr := hBw.out.size
        by_cases hlt : k < n
        · obtain ⟨bb, off, r, rfl, hbB, hr, z0, z1, z2, z3⟩ := (HSL.out.below hBw.out (Nat.le_refl _)).rl hlt
          have hlz : (k : Int) < (n : Int) := by omega
          have hrs : r.lab.size ≤ 1000000 := by have := freB_size (ruleE_ok (HRU.out r (List.mem_of_getElem? hr))).1; omega
          have HR := Lib.hid hr
          obtain ⟨wb, hwb⟩ : ∃ wb, wr.alloc (.cells #[.int .i64 r.kind, .string r.lab, .slice r.dA r.dn r.dc, .slice r.vA r.vn r.vc] 60) = wb := ⟨_, rfl⟩
          have hKb : Bk wb wr.heap.size 60 #[.int .i64 r.kind, .string r.lab, .slice r.dA r.dn r.dc, .slice r.vA r.vn r.vc] := by rw [← hwb]; exact Bk.new wr _ _
          have HBb : Hid (Below wr.heap.size wr wb) := by show Below _ _ _; rw [← hwb]; exact (Below.refl _ wr).alloc (Nat.le_refl _) _
          have hzb : wr.heap.size < wb.heap.size := hKb.lt
          have b1 := hKb.cell 1
          simp only [List.getElem?_toArray, List.getElem?_cons_zero, List.getElem?_cons_succ] at b1
          have HJ := Lib.hid (join_any d r.lab wb hdm hrs)
          have HKb := Lib.hid hKb; have HWb := Lib.hid hwb
          clear hwb hKb hr
          by_cases hj : joiE d r.lab = 0
          · have HJE := Lib.hid hj
            have HZ2 : Hid (∀ q ∈ rs.take (k + 1), joiE d q.lab = 0) := fun q hq => by
              rw [take_snoc HR.out] at hq
              rcases List.mem_append.1 hq with hq | hq
              · exact hZ.out q hq
              · rw [List.mem_singleton.1 hq]; exact HJE.out
            have HJV : Hid (joiV d r.lab = joiS d r.lab) := if_pos hj
            clear hj
            go_wp2_with (go_at_call 95; rw [HWb.out]; refine HJ.out.mono ?_; rintro e w5 ⟨rfl, hb5⟩; rw [HJE.out, HJV.out]; refine halt_ ?_)
            refine unhalt ?_
            have hK5 := HKb.out.below hb5 hzb
            have b0 := hK5.cell 0; have b2 := hK5.cell 2; have b3 := hK5.cell 3
            simp only [List.getElem?_toArray, List.getElem?_cons_zero, List.getElem?_cons_succ] at b0 b2 b3
            have HB5 : Hid (Below wr.heap.size wr w5) := HBb.out.trans (hb5.mono (by omega))
            have HO5 : Hid (w5.ownsRow w2.heap.size 35 4 (.slice Al k cl) k (flat tgC ((rs.take k).map (jnT d)))) := own_keep hO.out (fun j hj => by
              obtain ⟨h1, cur, h2⟩ := own_row hO.out hj
              exact HB5.out.block j (Array.getElem?_eq_some_iff.1 h2).1)
            have hz5 := HB5.out.size
            clear hK5 hb5 HJ b1 z0 z1 z2 z3
            go_wp2_with (at_builtin; refine halt_apx (.tmp 49) (.tmp 58) 25 rfl ?_)
            refine unhalt ?_
            refine wpList_append_sl (base := w2.heap.size) (size := 4) _ rfl (.tmp 49) (.tmp 58) 25 rfl 35 i0 _ 72 Tryz.underlying25 Hi.out Hz0.out Hz1.out Hz2.out rfl (by decide) (.slice Al k cl) k (flat tgC ((rs.take k).map (jnT d))) rfl ?own_2 (w5.heap.size + 1) _ 1 _ (tgC (jnT d r)) rfl ?nw_2 (by simp [tgC, Value.oneCell']) ?m1_2 ?m2_2 ?m3_2 ?_
            case own_2 => exact HO5.out.kept (World.grownBy_alloc w5 _ none) (by cases hv : (Value.slice Al k cl).ownBlock with | none => exact .inl rfl | some k => exact .inr (by simp))
            case nw_2 => exact ⟨rfl, fun _ => ⟨w5.heap.size, 0, rfl, Nat.lt_succ_self _, fun j u hu => by have := new_cells w5 35 (tgC (jnT d r)) j u hu; rwa [Addr.add_lit] at this⟩⟩
            case m1_2 => unfold maxLen; omega
            case m2_2 => omega
            case m3_2 => simp; omega
            intro A6 q6 w6 ho6 hg6 hc61 hc62
            have HO6 : Hid (w6.ownsRow w2.heap.size 35 4 (.slice A6 (k + 1) q6) (k + 1) (flat tgC ((rs.take (k + 1)).map (jnT d)))) := by
              show World.ownsRow _ _ _ _ _ _ _
              rw [take_snoc HR.out, List.map_append, flat_append]; simpa [flat] using ho6
            have HB6 : Hid (Below w2.heap.size w2 w6) := hBw.out.trans (((HB5.out.alloc (by omega) _).mono (by omega)).trans (below_of_grown hg6 (fun j hj => (own_row HO5.out hj).1) (by simp; omega)))
            clear ho6 hg6
            go_wp2_with fail
            go_roundw
            case rel => exact ⟨k + 1, A6, q6, rfl, by go_num, hlt, HO6.out, HZ2.out, HB6.out⟩
            case measure => simp [intOf]; omega
          · have HLF : Hid (lfE d (rs.map ct) = joiE d r.lab) := lfE_at hZ.out HR.out hj
            have HJN := Lib.hid hj
            have hj' : (joiE d r.lab != 0) = true := by simpa using hj
            obtain ⟨v, hve⟩ : ∃ v, joiE d r.lab = v := ⟨_, rfl⟩
            rw [hve] at HLF HJN hj'
            have HFF := Lib.hid (HLC.out [] v ⟨_, _, _, HPR.out, .inr (.inl ⟨rfl, by rw [HLF.out]; exact HJN.out, rfl, HLF.out.symm⟩)⟩)
            have HVE := Lib.hid hve
            clear hj hve
            go_wp2_with (go_at_call 95; rw [HWb.out]; refine HJ.out.mono ?_; rintro e w5 ⟨rfl, hb5⟩; rw [HVE.out])
            go_ret2
            exact LfEnd.none_ HFF.out (HB2.out.trans ((hBw.out.trans ((HBb.out.trans (hb5.mono (by omega))).mono hzr)).mono hz02))
        · have hlz : ¬ (k : Int) < (n : Int) := by omega
          obtain rfl : k = n := by omega
          have HT : Hid (rs.take k = rs) := List.take_of_length_le (by rw [HLN.out]; exact Nat.le_refl _)
          go_wp2_with fail
          go_ret2
          have hO2 := hO.out
          have hZ2 := hZ.out
          rw [HT.out] at hO2 hZ2
          obtain ⟨_, _, hform, hl1, hl2⟩ := ownsRow_form hO2
          injection hform with _ _ hcc
          subst hcc
          refine ⟨Al, k, cl, rs.map (jnT d), 0, rfl, Sl.of_own hO2, fun t ht => ?_, hl1, hl2, HLC.out _ _ ⟨_, _, _, HPR.out, .inr (.inr ⟨rfl, lfE_all hZ2, ct_jn d rs, rfl⟩)⟩, HB2.out.trans (hBw.out.mono hz02)⟩
          obtain ⟨r, hr, rfl⟩ := List.mem_map.1 ht
          have ho := (HOK.out r hr).step (BelowX.of_below hBw.out (Nat.zero_le _))
          have hrs := freB_size (ruleE_ok (HRU.out r hr)).1
          exact ⟨ho.d, ho.v, by
            show (joiS d r.lab).size ≤ maxLen
            unfold joiS
            split
            · unfold maxLen; omega
            · rw [ByteArray.size_append, ByteArray.size_append]; have : slW.size = 1 := rfl; unfold maxLen; omega, ho.ds, ho.vs⟩
    · have HFF := Lib.hid (HLC.out [] err ⟨_, _, _, HPR.out, .inl ⟨he, rfl, rfl⟩⟩)
      have he' : (err != 0) = true := by simpa using he
      clear he
      go_wp2_with fail
      go_ret2
      exact LfEnd.none_ HFF.out HB2.out
end Go.Proofs.YtddlohbhchjjhaaGreatDoor

namespace Go.Proofs.YtddlohbhchjjhaaGreatDoor
open Go.RowKit Go.Shelf Go.Maps
attribute [local go_sem] Oper.semAt_some

def depE (ts : List Tg) (lab : ByteArray) : List ByteArray → Int
  | [] => 0
  | d :: ds => match findT ts d with
    | none => 8
    | some o => if o.kind = 2 then 9 else if visT o.lab o.vis lab = false then 24 else depE ts lab ds
def ctE (ps : List ByteArray) (ts : List Tg) (t : Tg) : Int := if memB ps (t.lab ++ pkW) = false then 8 else depE ts t.lab t.deps
theorem depE_at {ts : List Tg} {lab d : ByteArray} {ds : List ByteArray} {k : Nat} (h : ds[k]? = some d) : depE ts lab (ds.drop k) = match findT ts d with
    | none => 8
    | some o => if o.kind = 2 then 9 else if visT o.lab o.vis lab = false then 24 else depE ts lab (ds.drop (k + 1)) := by
  have hk := List.getElem?_eq_some_iff.1 h
  rw [← List.getElem_cons_drop hk.1, hk.2]; rfl
def CkEnd (v : Int) (w : World) (e : Ending) (w' : World) : Prop := e = .returned (.int .i64 v) ∧ Below w.heap.size w w'
set_option maxRecDepth 100000 in
set_option maxHeartbeats 4000000 in
theorem checkTarget_any (pb tb N M B : Nat) (ps : List ByteArray) (ts : List Tg) (t : Tg) (w : World) (hP : Rm w Tryz.prog 9 pb N (pG ps)) (hT : Rm w Tryz.prog 9 tb M (idxG ts)) (hok : TgOk w B t) (hts : ∀ o ∈ ts, TgOk w B o) (hB : B ≤ w.heap.size) (hl : t.lab.size ≤ 1000) (hls : ∀ o ∈ ts, o.lab.size ≤ 1000) :
    Calls Tryz.prog 54 #[tgV t, .map (some pb), .map (some tb)] w (CkEnd (ctE ps ts t) w) := by
  have hDL := hok.dlen
  obtain ⟨lab, kind, dA, dn, dc, deps, vA, vn, vc, vis⟩ := t
  simp only [tgV]
  simp only at hl hDL
  have hdn : dn ≤ maxLen := Nat.le_trans hok.dle hok.dmax
  have hdnm : dn ≤ 9223372036854775807 := by unfold maxLen at hdn; omega
  have HO := Lib.hid hok; have HTS := Lib.hid hts; have HLS := Lib.hid hls
  have hzz : ∀ w : World, (zeroValue 4).run Tryz.prog w = .ok (.bool false) w := fun w => Tryz.zeroValue4 w
  obtain ⟨w0, hw0⟩ : ∃ w0, w.alloc (.cells #[.string lab, .int .i64 kind, .slice dA dn dc, .slice vA vn vc] 35) = w0 := ⟨_, rfl⟩
  have HB0 : Hid (Below w.heap.size w w0) := by show Below _ _ _; rw [← hw0]; exact (Below.refl _ w).alloc (Nat.le_refl _) _
  have hK0 : Bk w0 w.heap.size 35 #[.string lab, .int .i64 kind, .slice dA dn dc, .slice vA vn vc] := by rw [← hw0]; exact Bk.new w _ _
  have hz0 : w.heap.size < w0.heap.size := hK0.lt
  have y0 := hK0.cell 0; have y2 := hK0.cell 2
  simp only [List.getElem?_toArray, List.getElem?_cons_zero, List.getElem?_cons_succ] at y0 y2
  have HK0 := Lib.hid hK0; have HW0 := Lib.hid hw0
  have HP0 := Lib.hid (hP.below HB0.out hP.lt)
  have HT0 := Lib.hid (hT.below HB0.out hT.lt)
  have htb := hT.lt
  have hsz1 : (lab ++ pkW).size ≤ maxLen := by
    rw [ByteArray.size_append]; have : pkW.size = 3 := rfl; unfold maxLen; omega
  have hlk := HP0.out.look Tryz.underlying9 Tryz.underlying66 (hzz _) hsz1
  rw [pG_get] at hlk
  have HMO := Lib.hid (modulePath_any lab w0 (by omega))
  clear hw0 hK0 hP hT hok hts hls
  cases hm : memB ps (lab ++ pkW) with
  | false =>
    have HE : Hid (ctE ps ts ⟨lab, kind, dA, dn, dc, deps, vA, vn, vc, vis⟩ = 8) := if_pos hm
    rw [hm] at hlk
    clear hm
    go_enter Tryz.func54, Tryz.ntmps54
    go_wp2_with (go_at_call 77; rw [HW0.out]; refine HMO.out.mono ?_; rintro e w' ⟨rfl, rfl⟩)
    go_ret
    exact ⟨ret_int HE.out.symm, HB0.out⟩
  | true =>
    have HE0 : Hid (ctE ps ts ⟨lab, kind, dA, dn, dc, deps, vA, vn, vc, vis⟩ = depE ts lab deps) := if_neg (by simp [hm])
    rw [hm] at hlk
    clear hm
    go_enter Tryz.func54, Tryz.ntmps54
    go_wp2_with (go_at_call 77; rw [HW0.out]; refine HMO.out.mono ?_; rintro e w' ⟨rfl, rfl⟩)
    go_loopw [20] (fun i wr => ∃ k : Nat, i = .int .i64 (k : Int) ∧ k ≤ dn ∧ Hid (depE ts lab deps = depE ts lab (deps.drop k)) ∧ Hid (Below w0.heap.size w0 wr)) (fun i _ => dn - (intOf i).toNat)
    case atStart => exact ⟨0, rfl, Nat.zero_le _, rfl, Below.refl _ _⟩
    case round =>
      obtain ⟨k, rfl, hk, hE, hBw⟩ := hrel
      have hzr := hBw.out.size
      have HBwr : Hid (Below w.heap.size w wr) := HB0.out.trans (hBw.out.mono (by omega))
      by_cases hlt : k < dn
      · obtain ⟨bb, off, d, rfl, hbB, hd, z0⟩ := (HO.out.d.below HBwr.out hB).str_at hlt
        have hlz : (k : Int) < (dn : Int) := by omega
        have hds : d.size ≤ maxLen := HO.out.ds d (List.mem_of_getElem? hd)
        have HDE := Lib.hid (depE_at (ts := ts) (lab := lab) hd)
        have hltk := (HT0.out.below hBw.out (by omega)).look_ok Tryz.underlying9 Tryz.underlying73 (Tryz.zeroValue35 _) hds
        rw [idxG_some] at hltk
        have x0 := (HK0.out.below hBw.out hz0).cell 0
        simp only [List.getElem?_toArray, List.getElem?_cons_zero] at x0
        clear hd hlk y0 y2
        cases hf : findT ts d with
        | none =>
          have hn : isT ts d = false := by unfold isT; rw [hf]; rfl
          have HE : Hid (ctE ps ts ⟨lab, kind, some ⟨bb, off, none⟩, dn, dc, deps, vA, vn, vc, vis⟩ = 8) := by show _ = _; rw [HE0.out, hE.out, HDE.out, hf]
          rw [idxG_none hn, hn] at hltk
          simp only [Option.getD_none] at hltk
          clear hn hf HDE
          go_wp2_with fail
          go_ret
          exact ⟨ret_int HE.out.symm, HBwr.out.alloc HBwr.out.size _⟩
        | some o =>
          have hn : isT ts d = true := by unfold isT; rw [hf]; rfl
          have hol := findT_lab hf
          have HOO := Lib.hid (HTS.out o hol.2)
          have hos := HLS.out o hol.2
          have hg : idxG ts d = some (tgV o) := by unfold idxG; rw [hf]; rfl
          rw [hf] at HDE
          simp only at HDE
          rw [hg, hn] at hltk
          simp only [Option.getD_some, tgV] at hltk
          clear hf hn hol hg
          obtain ⟨wb, hwb⟩ : ∃ wb, wr.alloc (.cells #[.string o.lab, .int .i64 o.kind, .slice o.dA o.dn o.dc, .slice o.vA o.vn o.vc] 35) = wb := ⟨_, rfl⟩
          have HBb : Hid (Below wr.heap.size wr wb) := by show Below _ _ _; rw [← hwb]; exact (Below.refl _ wr).alloc (Nat.le_refl _) _
          have hKb : Bk wb wr.heap.size 35 #[.string o.lab, .int .i64 o.kind, .slice o.dA o.dn o.dc, .slice o.vA o.vn o.vc] := by rw [← hwb]; exact Bk.new wr _ _
          have b0 := hKb.cell 0; have b1 := hKb.cell 1; have b2 := hKb.cell 2; have b3 := hKb.cell 3
          simp only [List.getElem?_toArray, List.getElem?_cons_zero, List.getElem?_cons_succ] at b0 b1 b2 b3
          have HBwb : Hid (Below w.heap.size w wb) := HBwr.out.trans (HBb.out.mono HBwr.out.size)
          have x0b : wb.cell? ⟨w.heap.size, 0, none⟩ = some (.string lab) := (HBb.out.cell (p := ⟨w.heap.size, 0, none⟩) (by show w.heap.size < wr.heap.size; omega)).trans x0
          have HV := Lib.hid (visible_any o lab B wb (HOO.out.below HBwb.out hB) (Nat.le_trans hB HBwb.out.size) (by omega) (by omega))
          have HWb := Lib.hid hwb
          clear hKb hwb
          by_cases hk2 : o.kind = 2
          · have HE : Hid (ctE ps ts ⟨lab, kind, some ⟨bb, off, none⟩, dn, dc, deps, vA, vn, vc, vis⟩ = 9) := by show _ = _; rw [HE0.out, hE.out, HDE.out, if_pos hk2]
            have hkb : (o.kind == 2) = true := by simp [hk2]
            clear hk2 HDE
            have b1' : (wr.alloc (.cells #[.string o.lab, .int .i64 o.kind, .slice o.dA o.dn o.dc, .slice o.vA o.vn o.vc] 35)).cell? ⟨wr.heap.size, 1, none⟩ = some (.int .i64 o.kind) := by rw [HWb.out]; exact b1
            obtain ⟨ol, ok, oA, on, oc, od, pA, pn, pc, pv⟩ := o
            simp only at hltk b1' hkb
            go_wp2_with fail
            go_ret
            exact ⟨ret_int HE.out.symm, HBwr.out.alloc HBwr.out.size _⟩
          · have hkb : (o.kind == 2) = false := by simp [hk2]
            rw [if_neg hk2] at HDE
            clear hk2
            have b1' : (wr.alloc (.cells #[.string o.lab, .int .i64 o.kind, .slice o.dA o.dn o.dc, .slice o.vA o.vn o.vc] 35)).cell? ⟨wr.heap.size, 1, none⟩ = some (.int .i64 o.kind) := by rw [HWb.out]; exact b1
            have b0' : (wr.alloc (.cells #[.string o.lab, .int .i64 o.kind, .slice o.dA o.dn o.dc, .slice o.vA o.vn o.vc] 35)).cell? ⟨wr.heap.size, 0, none⟩ = some (.string o.lab) := by rw [HWb.out]; exact b0
            have b2' : (wr.alloc (.cells #[.string o.lab, .int .i64 o.kind, .slice o.dA o.dn o.dc, .slice o.vA o.vn o.vc] 35)).cell? ⟨wr.heap.size, 2, none⟩ = some (.slice o.dA o.dn o.dc) := by rw [HWb.out]; exact b2
            have b3' : (wr.alloc (.cells #[.string o.lab, .int .i64 o.kind, .slice o.dA o.dn o.dc, .slice o.vA o.vn o.vc] 35)).cell? ⟨wr.heap.size, 3, none⟩ = some (.slice o.vA o.vn o.vc) := by rw [HWb.out]; exact b3
            have x0' : (wr.alloc (.cells #[.string o.lab, .int .i64 o.kind, .slice o.dA o.dn o.dc, .slice o.vA o.vn o.vc] 35)).cell? ⟨w.heap.size, 0, none⟩ = some (.string lab) := by rw [HWb.out]; exact x0b
            clear b0 b1 b2 b3 x0b
            cases hv : visT o.lab o.vis lab with
            | false =>
              have HE : Hid (ctE ps ts ⟨lab, kind, some ⟨bb, off, none⟩, dn, dc, deps, vA, vn, vc, vis⟩ = 24) := by show _ = _; rw [HE0.out, hE.out, HDE.out, if_pos hv]
              rw [hv] at HV
              clear hv HDE
              obtain ⟨ol, ok, oA, on, oc, od, pA, pn, pc, pv⟩ := o
              simp only [tgV] at hltk b0' b1' b2' b3' x0' hkb HV HWb
              go_wp2_with (go_at_call 17; rw [HWb.out]; refine HV.out.mono ?_; rintro e w5 ⟨rfl, hb5⟩)
              go_ret
              exact ⟨ret_int HE.out.symm, HBwb.out.trans (hb5.mono HBwb.out.size)⟩
            | true =>
              have HN : Hid (depE ts lab deps = depE ts lab (deps.drop (k + 1))) := by show _ = _; rw [hE.out, HDE.out, if_neg (by rw [hv]; decide)]
              rw [hv] at HV
              clear hv HDE
              obtain ⟨ol, ok, oA, on, oc, od, pA, pn, pc, pv⟩ := o
              simp only [tgV] at hltk b0' b1' b2' b3' x0' hkb HV HWb HBb
              go_wp2_with (go_at_call 17; rw [HWb.out]; refine HV.out.mono ?_; rintro e w5 ⟨rfl, hb5⟩)
              go_roundw
              case rel => exact ⟨k + 1, by go_num, hlt, HN.out, hBw.out.trans ((HBb.out.trans (hb5.mono HBb.out.size)).mono hzr)⟩
              case measure => simp [intOf]; omega
      · have hlz : ¬ (k : Int) < (dn : Int) := by omega
        have HE : Hid (ctE ps ts ⟨lab, kind, dA, dn, dc, deps, vA, vn, vc, vis⟩ = 0) := by show _ = _; rw [HE0.out, hE.out, List.drop_of_length_le (by omega)]; rfl
        go_wp2_with fail
        go_ret
        exact ⟨ret_int HE.out.symm, HBwr.out⟩
end Go.Proofs.YtddlohbhchjjhaaGreatDoor

namespace Go.Proofs.YtddlohbhchjjhaaGreatDoor
open Go.RowKit Go.Shelf Go.Sort Go.Lib
attribute [local go_sem] Oper.semAt_some

instance : Inhabited Tg := ⟨⟨⟨#[]⟩, 0, none, 0, 0, [], none, 0, 0, []⟩⟩
theorem cmp_less : ∀ a b : List UInt8, decide (Lib.compareBytes a b < 0) = Op.bytesLess a b
  | [], [] => rfl
  | [], _ :: _ => rfl
  | _ :: _, [] => rfl
  | a :: x, b :: y => by
    have ih := cmp_less x y
    simp only [Lib.compareBytes, Op.bytesLess]
    by_cases h1 : a < b
    · simp [h1]
    · by_cases h2 : b < a
      · have h3 : (a == b) = false := by rw [beq_eq_false_iff_ne]; rintro rfl; exact h1 h2
        simp [h1, h2, h3]
      · have h3 : a = b := by
          apply UInt8.toNat_inj.1
          rw [UInt8.lt_iff_toNat_lt] at h1 h2
          omega
        subst h3
        rw [← ih]; simp [UInt8.lt_irrefl]
def cfT (x y : Tg) : Int := Lib.compareBytes x.lab.data.toList y.lab.data.toList
theorem lt_cfT (x y : Tg) : ltOf cfT x y = less x.lab y.lab := cmp_less _ _
theorem swoT : SWO (ltOf cfT) where
  irrefl x := by rw [lt_cfT]; exact lessB_irrefl _
  trans x y z h1 h2 := by rw [lt_cfT] at *; exact lessB_trans h1 h2
  ntrans x y z h1 h2 := by
    rw [lt_cfT] at *
    cases h3 : less x.lab z.lab with
    | false => rfl
    | true =>
      cases h4 : less z.lab y.lab with
      | true => rw [lessB_trans h3 h4] at h1; cases h1
      | false =>
        have := lessB_conn h2 h4
        rw [this] at h1; rw [h1] at h3; cases h3
set_option maxHeartbeats 1000000 in
theorem load1_any (x y : Tg) (W : World) : Calls Tryz.prog 51 #[.agg (tgC x).toArray, .agg (tgC y).toArray] W fun e w' => e = .returned (.int .i64 (cfT x y)) ∧ ∃ q os', w' = grow (W.drewN q) os' := by
  have hcon := fun W' => Tryz.strings_Compare x.lab y.lab W'
  obtain ⟨a, a1, a2, a3, a4, a5, a6, a7, a8, a9⟩ := x
  obtain ⟨b, b1, b2, b3, b4, b5, b6, b7, b8, b9⟩ := y
  simp only [cfT, tgC] at hcon ⊢
  generalize Lib.compareBytes a.data.toList b.data.toList = r at hcon ⊢
  have HC := Lib.hid hcon
  clear hcon
  go_enter Tryz.func51, Tryz.ntmps51
  go_wp2_with (go_at_call 52; refine (HC.out _).mono ?_; rintro e w' ⟨rfl, rfl⟩)
  go_ret
  exact ⟨rfl, 0, _, by rw [alloc_eq_grow, alloc_eq_grow, grow_grow]; rfl⟩
theorem flatK_flat (ts : List Tg) : (flatK tgC 4 ts.toArray).toList = flat tgC ts := by
  apply List.ext_getElem?
  intro t
  by_cases ht : t < ts.length * 4
  · have hk : t / 4 < ts.length := by omega
    have hx : ts[t / 4]? = some ts[t / 4] := List.getElem?_eq_getElem hk
    have h1 := flat_get tgC_len ts (t / 4) (t % 4) _ hx (by omega)
    rw [show t / 4 * 4 + t % 4 = t by omega] at h1
    have h2 : t < (flatK tgC 4 ts.toArray).size := by simpa using ht
    rw [h1, Array.getElem?_toList, Array.getElem?_eq_getElem h2]
    have h3 := get_flatK tgC 4 ts.toArray t (by simpa using ht)
    rw [getElem!_pos (flatK tgC 4 ts.toArray) t h2] at h3
    rw [h3, show ts.toArray[t / 4]! = ts[t / 4] by simp [hk]]
    have h4 : t % 4 < (tgC ts[t / 4]).length := by rw [tgC_len]; omega
    rw [getElem!_pos (tgC ts[t / 4]) (t % 4) h4, List.getElem?_eq_getElem h4]
  · rw [List.getElem?_eq_none (by simp; omega), List.getElem?_eq_none (by rw [flat_len tgC_len]; omega)]
theorem putCells_takeK (off n : Nat) (d : Array Value) (cur : Array Value) (hd : d.size = n) (ho : off = 0) (hn : n ≤ cur.size) : (putCells id off d cur).toList.take n = d.toList := by
  subst ho hd
  apply List.ext_getElem?
  intro k
  rw [List.getElem?_take]
  by_cases hk : k < d.size
  · have hk2 : k < cur.size := by omega
    rw [if_pos hk]
    simp [putCells, hk, hk2]
  · rw [if_neg hk, List.getElem?_eq_none (by simp; omega)]
def SrtT (ts : List Tg) : Prop := ts.Pairwise (fun a b => less b.lab a.lab = false)
theorem own_len {w : World} {base n c : Nat} {A : Option Addr} {e : TypeId} {ts : List Tg} (h : w.ownsRow base e 4 (.slice A n c) n (flat tgC ts)) : ts.length = n := by
  have := h.1; rw [flat_len tgC_len] at this; omega
set_option maxHeartbeats 1000000 in
theorem sortTgt_any (base n c : Nat) (A : Option Addr) (ts : List Tg) (w : World) (h : w.ownsRow base 35 4 (.slice A n c) n (flat tgC ts)) (hn : n ≤ 1000000) :
    Calls Tryz.prog 50 #[.slice A n c, .func (.func 51) #[] #[]] w fun e w' => e = .returned (.tuple #[]) ∧ ∃ us, us.Perm ts ∧ SrtT us ∧ w'.ownsRow base 35 4 (.slice A n c) n (flat tgC us) ∧ w.grownBy w' (Value.slice A n c).ownBlock := by
  have hl := own_len h
  have eg : ∀ args w, (callFunc 51 args).run Tryz.prog w = .ok (.enter 51 args) w := enters_of Tryz.func51 (by kernel_rfl) rfl
  rcases h.2 with ⟨hv, h0⟩ | ⟨g, cap, cur, hv, h1, h2, h3, h4, h5, h6⟩
  · simp only [Value.slice.injEq] at hv
    obtain ⟨rfl, _, rfl⟩ := hv
    subst h0
    obtain rfl : ts = [] := List.eq_nil_of_length_eq_zero hl
    have hc := AnyF.slices_SortFunc_none Tryz.sortTgt none 0 (.func (.func 51) #[] #[]) w
    change Calls Tryz.prog 50 _ _ _ at hc
    refine hc.mono ?_
    rintro e w' ⟨rfl, rfl⟩
    exact ⟨rfl, [], .refl _, List.Pairwise.nil, h, rfl, rfl, rfl, Nat.le_refl _, fun _ _ _ => rfl⟩
  · simp only [Value.slice.injEq] at hv
    obtain ⟨rfl, _, rfl⟩ := hv
    have hsz : n * 4 ≤ cur.size := by omega
    have hlt := (Array.getElem?_eq_some_iff.1 h2).1
    have hH : HoldsK tgC 4 w g 0 ts.toArray := by
      intro j hj
      have hj' : j < ts.length * 4 := by simpa using hj
      refine ⟨?_, by simp [World.frozen?, h2]⟩
      have h7 : (flat tgC ts)[j]? = some ((flatK tgC 4 ts.toArray)[j]!) := by
        rw [← flatK_flat, Array.getElem?_toList, Array.getElem?_eq_getElem (by simpa using hj'), getElem!_pos (flatK tgC 4 ts.toArray) j (by simpa using hj')]
      rw [← h6, List.getElem?_take, if_pos (by omega)] at h7
      show w.cell? ⟨g, 0 + j, none⟩ = _
      simp [World.cell?, h2]
      simpa using h7
    have hc := AnyQ.slices_SortFunc Tryz.sortTgt 4 Tryz.isAgg35 Tryz.sizeOf35 tgC tgC_len (fun x v hv => by simp [tgC] at hv; rcases hv with rfl | rfl | rfl | rfl <;> rfl) cfT swoT 51 #[] g 0 c ts.toArray w eg (fun _ _ _ _ x y => load1_any x y _) hH hlt (by simp; omega)
    change Calls Tryz.prog 50 _ _ _ at hc
    rw [List.size_toArray, hl] at hc
    refine hc.mono ?_
    rintro e w' ⟨rfl, d', k, os, hp, hs, rfl⟩
    have hd : d'.size = n := by rw [hp.1]; simpa using hl
    have hpp : d'.toList.Perm ts := by
      have := hp.2.2
      have e1 : d'.extract 0 n = d' := by rw [← hd]; simp
      have e2 : ts.toArray.extract 0 n = ts.toArray := by rw [← hl]; simp
      rw [e1, e2] at this
      simpa using this
    have hso : SrtT d'.toList := by
      unfold SrtT
      rw [List.pairwise_iff_getElem]
      intro i j hi hj hij
      have hi' : i < d'.size := by simpa using hi
      have hj' : j < d'.size := by simpa using hj
      have := hs i j (Nat.zero_le _) hij (by omega)
      rw [lt_cfT, getElem!_pos d' j hj', getElem!_pos d' i hi'] at this
      simpa using this
    have hfs : (flatK tgC 4 d').size = n * 4 := by rw [size_flatK, hd]
    refine ⟨rfl, d'.toList, hpp, hso, ⟨by rw [flat_len tgC_len, Array.length_toList, hd], .inr ⟨g, c, putCells id 0 (flatK tgC 4 d') cur, rfl, h1, ?_, h3, h4, by simp [putCells]; omega, ?_⟩⟩, rfl, rfl, rfl, by simp [sortWorldK, putRowK, grow, putRow, mapBlock, Sort.ahead], fun b hb hr => ?_⟩
    · simp only [sortWorldK, putRowK, grow, putRow, mapBlock, Sort.ahead]
      rw [Array.getElem?_append_left (by simpa using hlt), Array.getElem?_modify, if_pos rfl, h2]
      rfl
    · rw [putCells_takeK 0 (n * 4) _ cur hfs rfl hsz, ← flatK_flat]
    · simp only [sortWorldK, putRowK, grow, putRow, mapBlock, Sort.ahead]
      rw [Array.getElem?_append_left (by simpa using hb), Array.getElem?_modify, if_neg (fun e => hr (by rw [e]; rfl))]
end Go.Proofs.YtddlohbhchjjhaaGreatDoor

namespace Go.Proofs.YtddlohbhchjjhaaGreatDoor
open Go.RowKit

def vchI (c : Int) : Bool := ((decide (97 ≤ c) && decide (c ≤ 122)) || ((decide (65 ≤ c) && decide (c ≤ 90)) || (decide (48 ≤ c) && decide (c ≤ 57)))) || (decide (c = 46) || (decide (c = 95) || decide (c = 45)))
def vchB (c : UInt8) : Bool := vchI (c.toNat : Int)
def nameL (l : List UInt8) : Bool := decide (1 ≤ l.length) && (decide (l.length ≤ 24) && (!(decide (l = [46])) && (!(decide (l = [46, 46])) && l.all vchB)))
def nameB (s : ByteArray) : Bool := nameL (bl s)
set_option maxHeartbeats 1000000 in
theorem vletter_any (c : Int) (w : World) : Calls Tryz.prog 181 #[.int .u8 c] w fun e w' => e = .returned (.bool (vchI c)) ∧ w = w' := by
  go_enter Tryz.func181, Tryz.ntmps181
  go_wp2
  all_goals (go_ret; refine ⟨ret_bool ?_, rfl⟩; rw [Bool.eq_iff_iff]; simp [vchI]; try omega)
def AllTo (l : List UInt8) (k : Nat) : Prop := ∀ j c, j < k → l[j]? = some c → vchB c = true
theorem AllTo.step {l : List UInt8} {k : Nat} {c : UInt8} (h : AllTo l k) (hc : l[k]? = some c) (ho : vchB c = true) : AllTo l (k + 1) := fun j x hj hx => by
  by_cases e : j = k
  · subst e; rw [hc] at hx; cases hx; exact ho
  · exact h j x (by omega) hx
theorem AllTo.all {l : List UInt8} (h : AllTo l l.length) : l.all vchB = true := by
  rw [List.all_eq_true]
  intro c hc
  obtain ⟨j, hj, e⟩ := List.getElem_of_mem hc
  exact h j c hj (by rw [← e]; exact List.getElem?_eq_getElem _)
set_option maxRecDepth 100000 in
set_option maxHeartbeats 1000000 in
theorem vname_any (s : ByteArray) (w : World) (hs : s.size ≤ maxLen) : Calls Tryz.prog 133 #[.string s] w fun e w' => e = .returned (.bool (nameB s)) ∧ w = w' := by
  unfold maxLen at hs
  have HL := Lib.hid (size_len s)
  go_enter Tryz.func133, Tryz.ntmps133
  have hno : ∀ b : Bool, nameB s = b → Hid (nameB s = b) := fun b h => h
  have hls : (bl s).length = s.size := (size_len s).symm
  by_cases c1 : (s.size : Int) < 1
  · have hv := hno false (by unfold nameB nameL; rw [decide_eq_false (by omega), Bool.false_and])
    clear hno hls
    go_wp2_with fail
    go_ret
    exact ⟨ret_bool hv.out.symm, rfl⟩
  by_cases c2 : (24 : Int) < (s.size : Int)
  · have hv := hno false (by unfold nameB nameL; rw [decide_eq_false (p := (bl s).length ≤ 24) (by omega)]; simp)
    clear hno hls
    go_wp2_with fail
    go_ret
    exact ⟨ret_bool hv.out.symm, rfl⟩
  have h3 : (s.toList == [46]) = decide (bl s = [46]) := by rw [ByteArray.toList_eq]; unfold bl; rw [Bool.eq_iff_iff]; simp
  have h4 : (s.toList == [46, 46]) = decide (bl s = [46, 46]) := by rw [ByteArray.toList_eq]; unfold bl; rw [Bool.eq_iff_iff]; simp
  by_cases c3 : bl s = [46]
  · have hv := hno false (by unfold nameB nameL; rw [decide_eq_true c3]; simp)
    rw [decide_eq_true c3] at h3
    clear hno hls h4 c3
    go_wp2_with fail
    go_ret
    exact ⟨ret_bool hv.out.symm, rfl⟩
  rw [decide_eq_false c3] at h3
  by_cases c4 : bl s = [46, 46]
  · have hv := hno false (by unfold nameB nameL; rw [decide_eq_true c4]; simp)
    rw [decide_eq_true c4] at h4
    clear hno hls c4 c3
    go_wp2_with fail
    go_ret
    exact ⟨ret_bool hv.out.symm, rfl⟩
  rw [decide_eq_false c4] at h4
  have HV : Hid (nameB s = (bl s).all vchB) := by
    show _ = _
    unfold nameB nameL
    rw [decide_eq_true (p := 1 ≤ (bl s).length) (by omega), decide_eq_true (p := (bl s).length ≤ 24) (by omega), decide_eq_false c3, decide_eq_false c4]
    simp
  have HLS := Lib.hid hls
  clear hno c3 c4 hls
  go_wp2_with fail
  go_loop [22] (fun i => ∃ k : Nat, k ≤ s.size ∧ i = .int .i64 k ∧ Hid (AllTo (bl s) k)) (fun i => s.size - (intOf i).toNat)
  case atStart => exact ⟨0, Nat.zero_le _, rfl, fun j c h => absurd h (by omega)⟩
  case round =>
    obtain ⟨k, hk, rfl, hA⟩ := hrel
    by_cases hlt : k < s.size
    · have hkz : (k : Int) < (s.size : Int) := by omega
      have HG := Lib.hid (get_data s k hlt)
      have HLT := Lib.hid (vletter_any (s[k].toNat : Int))
      cases hv : vchI (s[k].toNat : Int) with
      | true =>
        have HA2 : Hid (AllTo (bl s) (k + 1)) := hA.out.step HG.out hv
        rw [hv] at HLT
        clear hv hA
        go_wp2_with (go_at_call 181; refine (HLT.out _).mono ?_; rintro e w' ⟨rfl, rfl⟩)
        go_round
        case rel => exact ⟨k + 1, hlt, by go_num, HA2.out⟩
        case measure => simp [intOf]; omega
      | false =>
        have HF : Hid (nameB s = false) := by
          show _ = _
          rw [HV.out, List.all_eq_false]
          exact ⟨s[k], List.mem_of_getElem? HG.out, by unfold vchB; rw [hv]; simp⟩
        rw [hv] at HLT
        clear hv hA
        go_wp2_with (go_at_call 181; refine (HLT.out _).mono ?_; rintro e w' ⟨rfl, rfl⟩)
        go_ret
        exact ⟨ret_bool HF.out.symm, rfl⟩
    · have hkz : ¬ (k : Int) < (s.size : Int) := by omega
      have HT : Hid (nameB s = true) := by
        show _ = _
        rw [HV.out]
        refine AllTo.all ?_
        have := hA.out
        rwa [show k = (bl s).length from by rw [HLS.out]; omega] at this
      clear hA
      go_wp2_with fail
      go_ret
      exact ⟨ret_bool HT.out.symm, rfl⟩
end Go.Proofs.YtddlohbhchjjhaaGreatDoor

namespace Go.Proofs.YtddlohbhchjjhaaGreatDoor
open Go.RowKit Go.Shelf
attribute [local go_sem] Oper.semAt_some

def pathB (s : ByteArray) : Bool := decide ((bl s).length ≤ 100) && (splitS (bl s)).all nameL
theorem resultsPth {w : World} {a : Array Value} {r : Nat} {x : Bool} (ha : a[2]?.getD undef = .pointer (some ⟨r, 0, none⟩)) (h : w.heap[r]? = some (.cells #[.bool x] 4 (0, 0))) :
    (results Tryz.f91 a).run Tryz.prog w = .ok (.bool x) w := by
  have hc := cell_of_one h
  simp [results, Tryz.results91, ha, go_sem, hc]

set_option maxRecDepth 100000 in
set_option maxHeartbeats 1000000 in
theorem isPath_any (s : ByteArray) (w : World) (hs : s.size ≤ maxLen) :
    Calls Tryz.prog 91 #[.string s] w fun e w' => e = .returned (.bool (pathB s)) ∧ Below w.heap.size w w' := by
  refine (callsIn_wide (n := 6)).1 ?_
  unfold maxLen at hs
  have HL := Lib.hid (size_len s)
  have hf65 : Fence.wide.fn 111 := trivial
  have hf66 : Fence.wide.fn 133 := trivial
  refine callsIn_of_wp_marks Tryz.func91 rfl trivial ?_ rfl
  simp only [Tryz.ntmps91, List.size_toArray, List.length_cons, List.length_nil, Nat.reduceAdd, Nat.reduceSub, Array.replicate_succ, Array.replicate_zero, List.push_toArray, List.append_toArray, List.nil_append, List.cons_append]
  by_cases c1 : 100 < (s.size : Int)
  · have hv : Hid (pathB s = false) := by
      show _ = _
      have := HL.out
      unfold pathB bl; rw [decide_eq_false (by omega), Bool.false_and]
    gi_wp2_with fail
    refine ⟨_, resultsPth rfl (World.alloc_heap_new w _), ?_⟩
    exact ⟨ret_bool hv.out.symm, (Below.refl _ _).alloc (Nat.le_refl _) _⟩
  have c1' : (s.size : Int) ≤ 100 := by omega
  have HN : Hid (pathB s = (splitS (bl s)).all nameL) := by
    show _ = _
    have := HL.out
    unfold pathB; rw [decide_eq_true (by unfold bl; omega), Bool.true_and]
  gi_wp2_with (gi_at_call 111; refine (callsIn_wide.2 (splitSeq_any _ _)).mono ?_; rintro e w' ⟨rfl, rfl⟩)
  obtain ⟨W0, hW0⟩ : ∃ W0, (((w.alloc (.cells #[.bool false] 4)).alloc (.cells #[.string s] 9)).alloc (.cells #[.string ⟨#[47]⟩] 9)).alloc (.cells #[.int .i64 0] 3) = W0 := ⟨_, rfl⟩
  have hz : W0.heap.size = w.heap.size + 4 := by rw [← hW0]; simp
  have g0 : W0.heap[w.heap.size]? = some (.cells #[.bool false] 4 (0, 0)) := by
    rw [← hW0]
    exact (Below.heap_alloc _ _ _ (by simp; omega)).trans ((Below.heap_alloc _ _ _ (by simp; omega)).trans ((Below.heap_alloc _ _ _ (by simp)).trans (World.alloc_heap_new w _)))
  have g1 : W0.heap[w.heap.size + 1]? = some (.cells #[.string s] 9 (0, 0)) := by
    rw [← hW0]
    refine (Below.heap_alloc _ _ _ (by simp)).trans ((Below.heap_alloc _ _ _ (by simp)).trans ?_)
    have := World.alloc_heap_new (w.alloc (.cells #[.bool false] 4)) (.cells #[.string s] 9); rwa [World.size_alloc] at this
  have g2 : W0.heap[w.heap.size + 1 + 1]? = some (.cells #[.string ⟨#[47]⟩] 9 (0, 0)) := by
    rw [← hW0]
    refine (Below.heap_alloc _ _ _ (by simp)).trans ?_
    have := World.alloc_heap_new ((w.alloc (.cells #[.bool false] 4)).alloc (.cells #[.string s] 9)) (.cells #[.string ⟨#[47]⟩] 9); rwa [World.size_alloc, World.size_alloc] at this
  have g3 : W0.heap[w.heap.size + 1 + 2]? = some (.cells #[.int .i64 0] 3 (0, 0)) := by
    rw [← hW0]
    have := World.alloc_heap_new (((w.alloc (.cells #[.bool false] 4)).alloc (.cells #[.string s] 9)).alloc (.cells #[.string ⟨#[47]⟩] 9)) (.cells #[.int .i64 0] 3); rwa [World.size_alloc, World.size_alloc, World.size_alloc] at this
  have hb0 : Below w.heap.size w W0 := by
    rw [← hW0]
    exact ((((Below.refl _ w).alloc (Nat.le_refl _) _).alloc (by simp) _).alloc (by simp; omega) _).alloc (by simp; omega) _
  rw [hW0]
  refine wpIn_rangeP (F := Fence.wide) (n := 6) rfl (by omega) (gf := 213) (lb := #[.pointer (some ⟨w.heap.size + 1 + 1, 0, none⟩), .pointer (some ⟨w.heap.size + 1, 0, none⟩), .pointer (some ⟨w.heap.size + 1 + 2, 0, none⟩)]) rfl trivial (enters_of Tryz.func213 (by kernel_rfl) rfl)
    (split1_st 5 (w.heap.size + 1) (by omega) s W0 (by omega) (by omega) g1 g2 g3) keepS_t (fun W l o hl => keepS_put (m := w.heap.size + 4) (by omega) W l o (by omega)) (stS_others) (Below.refl _ _) (fun _ => rfl)
    (fun pre W => W.heap[w.heap.size]? = some (.cells #[.bool false] 4 (0, 0)) ∧ Hid (∀ x ∈ pre, nameB x = true) ∧ Below w.heap.size w W ∧ w.heap.size + 4 ≤ W.heap.size)
    (fun c pre W => c = .ret ∧ W.heap[w.heap.size]? = some (.cells #[.bool false] 4 (0, 0)) ∧ Hid (∃ x ∈ pre, nameB x = false) ∧ Below w.heap.size w W)
    ?hI ?hIx ?hIS ⟨g0, by simp [Hid], hb0, by omega⟩ ?a1 ?assign ?body ?done ?stop
  case assign =>
    intro l x W K hK
    have HKK := Lib.hid hK
    clear hK
    gi_wp2
    exact HKK.out
  case hI =>
    rintro pre A B row ⟨h1, h2, h3, h4⟩ hg hr
    refine ⟨one_grown' h1 hg (fun e => ?_), h2, h3.grown hg h3.size (fun k e => ?_), Nat.le_trans h4 hg.size⟩
    · have := (hr _ e.symm).1; omega
    · have := (hr _ e).1; omega
  case hIx =>
    rintro c pre A B row ⟨h0, h1, h2, h3⟩ hg hr
    refine ⟨h0, one_grown' h1 hg (fun e => ?_), h2, h3.grown hg h3.size (fun k e => ?_)⟩
    · have := (hr _ e.symm).1; omega
    · have := (hr _ e).1; omega
  case hIS =>
    rintro pre A B ⟨h1, h2, h3, h4⟩ ⟨v, rfl⟩
    exact ⟨(Below.heap_setCell _ _ _ _ (by simp)).trans h1, h2, h3.setCell (p := ⟨w.heap.size + 1, 0, none⟩) (by simp) _, by simpa [World.setCell] using h4⟩
  case body =>
    rintro l pre x W ⟨r, hr⟩ ⟨h1, h2, h3, h4⟩
    have hxs : x.size ≤ maxLen := by
      have hm : bl x ∈ splitS (bl s) := by rw [← hr]; simp
      have h5 := splitS_len (bl s) _ hm
      have h6 := size_len x
      have h7 := HL.out
      unfold bl at h5; unfold maxLen; omega
    have c0 := cell_of_one h1
    have f0 := free_of_one h1
    have H1 := Lib.hid h1; have H3 := Lib.hid h3
    clear h1 h3 g0 g1 g2 g3 hb0 hW0 hr
    cases hv : nameB x with
    | true =>
      have HV := Lib.hid hv
      clear hv
      gi_wp2_with (gi_at_call 133; refine (CallsIn.inRound l (callsIn_wide.2 (vname_any x _ hxs))).mono ?_; rintro e w' ⟨rfl, rfl⟩; rw [HV.out])
      refine ⟨⟨Nat.le_refl _, fun k o hk _ => hk⟩, fun k h5 h6 => rfl, H1.out, ?_, H3.out, h4⟩
      intro y hy
      rcases List.mem_append.1 hy with h | h
      · exact h2.out y h
      · simp at h; subst h; exact HV.out
    | false =>
      have HV := Lib.hid hv
      clear hv
      gi_wp2_with (gi_at_call 133; refine (CallsIn.inRound l (callsIn_wide.2 (vname_any x _ hxs))).mono ?_; rintro e w' ⟨rfl, rfl⟩; rw [HV.out])
      exact ⟨KeepsOthers.setCell _ _ _, rfl, one_setCell H1.out, ⟨x, by simp, HV.out⟩, H3.out.setCell (p := ⟨w.heap.size, 0, none⟩) (Nat.le_refl _) _⟩
  case done =>
    rintro D xs W hD hS ⟨h1, h2, h3, h4⟩ hK
    have c0 := cell_of_one h1
    have f0 := free_of_one h1
    have H1 := Lib.hid h1; have H3 := Lib.hid h3; have HK := Lib.hid hK; have HS := Lib.hid hS
    clear h1 h3 hK hS
    gi_wp2
    have hK2 := (KeepsOthers.setCell W ⟨w.heap.size, 0, none⟩ (.bool true)).same D _ HK.out rfl
    refine ⟨by simp, .inl ⟨_, _, rfl, run_takeDeferred hK2, ?_⟩⟩
    refine ⟨_, resultsPth rfl ((World.putObj_heap_other (by omega)).trans (one_setCell H1.out)), ret_bool ?_, ?_⟩
    · rw [HN.out]
      symm
      rw [List.all_eq_true]
      intro y hy
      have hy' : y ∈ xs.map bl := by rw [HS.out]; exact hy
      obtain ⟨x, hx, rfl⟩ := List.mem_map.1 hy'
      exact h2.out x hx
    · exact (H3.out.setCell (p := ⟨w.heap.size, 0, none⟩) (Nat.le_refl _) _).grown (grownBy_putObj' _ _ _) ((H3.out.setCell (p := ⟨w.heap.size, 0, none⟩) (Nat.le_refl _) _).size) (fun k e => by cases e; omega)
  case stop =>
    rintro D c pre W hD hS ⟨rfl, h1, h2, h3⟩ hK
    have H1 := Lib.hid h1; have H3 := Lib.hid h3; have HK := Lib.hid hK; have HS := Lib.hid hS
    clear h1 h3 hK hS
    gi_wp2
    refine ⟨by simp, .inl ⟨_, _, rfl, run_takeDeferred HK.out, ?_⟩⟩
    refine ⟨_, resultsPth rfl ((World.putObj_heap_other (by omega)).trans H1.out), ret_bool ?_, ?_⟩
    · rw [HN.out]
      symm
      rw [List.all_eq_false]
      obtain ⟨x, hx, hxv⟩ := h2.out
      obtain ⟨r, hr⟩ := HS.out
      refine ⟨bl x, ?_, by simpa [nameB] using hxv⟩
      rw [← hr]
      exact List.mem_append.2 (.inl (List.mem_map.2 ⟨x, hx, rfl⟩))
    · exact H3.out.grown (grownBy_putObj' _ _ _) H3.out.size (fun k e => by cases e; omega)
end Go.Proofs.YtddlohbhchjjhaaGreatDoor

namespace Go.Proofs.YtddlohbhchjjhaaGreatDoor
open Go.RowKit

structure Kt (w w' : World) : Prop where
  others : KeepsOthers w w'
  same : ∀ (k : Nat) (cs : Array Value) (t : TypeId) (fr : Nat × Nat), t ≠ 5 → t ≠ 108 → w.heap[k]? = some (.cells cs t fr) → w'.heap[k]? = some (.cells cs t fr)
theorem Kt.refl (w : World) : Kt w w := ⟨KeepsOthers.refl w, fun _ _ _ _ _ _ h => h⟩
theorem Kt.trans {a b c : World} (h : Kt a b) (k : Kt b c) : Kt a c := ⟨h.others.trans k.others, fun i cs t fr h5 h9 hi => k.same i cs t fr h5 h9 (h.same i cs t fr h5 h9 hi)⟩
theorem Kt.alloc (w : World) (o : Obj) : Kt w (w.alloc o) := ⟨KeepsOthers.alloc w o, fun k _ _ _ _ _ h => (Below.heap_alloc w o k (Array.getElem?_eq_some_iff.1 h).1).trans h⟩
theorem Kt.setCell {w : World} {b i : Nat} {cs : Array Value} {fr : Nat × Nat} (hb : w.heap[b]? = some (.cells cs 108 fr)) (v : Value) : Kt w (w.setCell ⟨b, i, none⟩ v) :=
  ⟨KeepsOthers.setCell _ _ _, fun k cs' t fr' _ h9 h => (Below.heap_setCell w ⟨b, i, none⟩ v k (fun e => by
    have e' : k = b := e
    rw [e', hb] at h
    simp only [Option.some.injEq, Obj.cells.injEq] at h
    exact h9 h.2.1.symm)).trans h⟩
theorem Kt.grown {w w' : World} {base size n : Nat} {v : Value} {xs : List Value} (hown : w.ownsRow base 5 size v n xs) (hg : w.grownBy w' v.ownBlock) : Kt w w' := by
  have key : ∀ j, v.ownBlock = some j → ∃ cur, w.heap[j]? = some (.cells cur 5 (0, 0)) := by
    intro j hj
    rcases hown.2 with ⟨hv, _⟩ | ⟨g, cap, cur, hv, _, hh, _⟩
    · rw [hv] at hj; cases hj
    · rw [hv] at hj; cases hj; exact ⟨cur, hh⟩
  refine ⟨KeepsOthers.of_grownBy hg fun j o hj ho => ?_, fun k cs t fr h5 _ h => ?_⟩
  · obtain ⟨cur, hc⟩ := key j hj
    rw [hc] at ho; cases ho; rfl
  · refine (hg.block k (Array.getElem?_eq_some_iff.1 h).1 (fun e => ?_)).trans h
    obtain ⟨cur, hc⟩ := key k e.symm
    rw [hc] at h
    simp only [Option.some.injEq, Obj.cells.injEq] at h
    exact h5 h.2.1.symm
theorem infoByte : (Tryz.prog.info? 5).map (fun i => (i.zero, i.size, i.bytes)) = some (some (.int .u8 0), 1, 1) := by kernel_rfl

set_option maxHeartbeats 1000000 in
set_option maxRecDepth 100000 in
theorem copy_used (b : Nat) (w : World) (h0 : w.cell? ⟨b, 0, none⟩ = some (.pointer (some ⟨b, 0, none⟩))) :
    Calls Tryz.prog 117 #[.pointer (some ⟨b, 0, none⟩)] w fun e w' => e = .returned (.tuple #[]) ∧ w' = w := by
  obtain ⟨j, hj, _⟩ := Option.map_eq_some_iff.1 Tryz.Builder_Extra_169.sizeBuilder
  go_enter Tryz.func117, Tryz.ntmps117
  go_wp2
  rw [Lib.run_neq_ptr_same w _ Tryz.underlying105 hj]
  go_wp2
  go_end0
  exact ⟨rfl, rfl⟩

set_option maxHeartbeats 1000000 in
set_option maxRecDepth 100000 in
theorem copy_fresh (b : Nat) (w : World) (h0 : w.cell? ⟨b, 0, none⟩ = some (.pointer none)) (hsh : w.shape? b = some (108, 2)) (hfz : w.frozen? ⟨b, 0, none⟩ = false) :
    Calls Tryz.prog 117 #[.pointer (some ⟨b, 0, none⟩)] w fun e w' => e = .returned (.tuple #[]) ∧ w' = w.setCell ⟨b, 0, none⟩ (.pointer (some ⟨b, 0, none⟩)) := by
  obtain ⟨j, hj, hjs⟩ := Option.map_eq_some_iff.1 Tryz.Builder_Extra_169.sizeBuilder
  go_enter Tryz.func117, Tryz.ntmps117
  go_wp2
  rw [Lib.run_to_unsafe w ⟨b, 0, none⟩ Tryz.underlying105 Tryz.underlying191 hj (by rw [hjs]; decide) hsh (Nat.zero_lt_succ 1)]
  simp only [Result.andThen]
  rw [Oper.upon_value]
  go_wp2
  rw [run_callFunc_extern Tryz.func168 (by kernel_rfl) (by kernel_rfl) (by kernel_rfl) (e := Extern.AbiNoEscape.same) (by kernel_rfl)]
  rw [Lib.run_noEscape]
  simp only [Result.andThen]
  rw [Oper.upon_value]
  go_wp2
  rw [Lib.run_from_unsafe w ⟨b, 0, none⟩ Tryz.underlying191 Tryz.underlying105 hj hsh Tryz.Builder_Extra_169.liesBuilder]
  simp only [Result.andThen]
  rw [Oper.upon_value]
  go_wp2
  go_end0
  exact ⟨rfl, rfl⟩

theorem copy_any (B b : Nat) (bs : List Value) (w : World) (h : Lib.IsBuilder 108 5 B b bs w) :
    Calls Tryz.prog 117 #[.pointer (some ⟨b, 0, none⟩)] w fun e w' => e = .returned (.tuple #[]) ∧ (Lib.BuilderAt 108 5 B b (.pointer (some ⟨b, 0, none⟩)) bs w' ∧ Below B w w' ∧ Kt w w') := by
  rcases h with h | h
  · refine (copy_fresh b w h.cell0 h.shape h.frozen0).mono ?_
    rintro e w' ⟨rfl, rfl⟩
    obtain ⟨_, v, hb, _⟩ := id h
    exact ⟨rfl, h.used _, (Below.refl B w).setCell (p := ⟨b, 0, none⟩) h.1 _, Kt.setCell hb _⟩
  · refine (copy_used b w h.cell0).mono ?_
    rintro e w' ⟨rfl, rfl⟩
    exact ⟨rfl, h, Below.refl B _, Kt.refl _⟩

set_option maxHeartbeats 2000000 in
set_option maxRecDepth 100000 in
theorem writeByte_any (B b : Nat) (bs : List Value) (c : Int) (w : World) (h : Lib.IsBuilder 108 5 B b bs w) (hlen : bs.length + 1 ≤ 140737488355328) (hBw : B ≤ w.heap.size) :
    Calls Tryz.prog 248 #[.pointer (some ⟨b, 0, none⟩), .int .u8 c] w fun e w' => e = .returned .nilIface ∧ (Lib.BuilderAt 108 5 B b (.pointer (some ⟨b, 0, none⟩)) (bs ++ [.int .u8 c]) w' ∧ Below B w w' ∧ Kt w w') := by
  obtain ⟨i0, hi, hz0, hz1, hz2⟩ := info_parts infoByte
  go_enter Tryz.func248, Tryz.ntmps248
  go_wp2_with fail
  refine (copy_any B b bs _ h).mono ?_
  rintro e w1 ⟨rfl, h1, hb1, hk1⟩
  have HK1 := Lib.hid hk1; clear hk1
  obtain ⟨hB, v, hbk, hown, hne⟩ := h1
  have c0 : w1.cell? ⟨b, 0, none⟩ = some (.pointer (some ⟨b, 0, none⟩)) := by rw [Lib.cell_of_heap hbk]; rfl
  have c1 : w1.cell? ⟨b, 1, none⟩ = some v := by rw [Lib.cell_of_heap hbk]; rfl
  go_wp2_with (at_builtin; refine wpList_append_own _ rfl _ _ 106 rfl B 5 i0 (.int .u8 0) 1 1 Tryz.underlying106 hi hz0 hz1 hz2 rfl (by decide) _ _ _ rfl (hown.alloc _) ⟨w1.heap.size, 0, none⟩ 1 1 [.int .u8 c] rfl rfl ?c1 ?c2 ?c3 ?c4 ?c5 ?_)
  case c1 =>
    intro j u hj
    match j, hj with
    | 0, hj => simp at hj; subst hj; simp [Addr.add]
  case c2 => intro u hu; simp at hu; subst hu; rfl
  case c3 => unfold maxLen; omega
  case c4 => omega
  case c5 => have := hb1.size; simp; omega
  intro v' w2 hown' hgrow _
  have HK2 : Hid (Kt w w2) := (HK1.out.trans (Kt.alloc _ _)).trans (Kt.grown (hown.alloc _) hgrow)
  have hlt : b < w1.heap.size := (Array.getElem?_eq_some_iff.1 hbk).1
  have hb2 : w2.heap[b]? = some (.cells #[.pointer (some ⟨b, 0, none⟩), v] 108 (0, 0)) := by
    rw [hgrow.block b (by simp; omega) (fun e => hne e.symm), Lib.alloc_old w1 _ b hlt]
    exact hbk
  have d0 : w2.cell? ⟨b, 0, none⟩ = some (.pointer (some ⟨b, 0, none⟩)) := by rw [Lib.cell_of_heap hb2]; rfl
  have d1 : w2.cell? ⟨b, 1, none⟩ = some v := by rw [Lib.cell_of_heap hb2]; rfl
  have f1 : w2.frozen? ⟨b, 1, none⟩ = false := Lib.frozen_of_heap hb2 1
  obtain ⟨g, cap, rfl⟩ : ∃ g cap, v' = .slice (some ⟨g, 0, none⟩) (bs.length + 1) cap := by
    rcases hown'.2 with ⟨_, h0⟩ | ⟨g, cap, cur, hv, _⟩
    · omega
    · exact ⟨g, cap, hv⟩
  go_wp2
  go_ret
  refine ⟨rfl, ?_, ?_, HK2.out.trans (Kt.setCell hb2 _)⟩
  · exact Lib.BuilderAt.put (T := 108) (e := 5) hB hb2 (bs' := bs ++ [.int .u8 c]) (by simpa using hown') (by decide)
  · exact ((hb1.alloc (by have := hb1.size; omega) _).grown hgrow (by have := hb1.size; simp; omega) (fun k hk => (hown.lt k hk).1)).setCell (p := ⟨b, 1, none⟩) hB _

set_option maxHeartbeats 2000000 in
set_option maxRecDepth 100000 in
theorem writeString_any (B b : Nat) (bs : List Value) (s : ByteArray) (w : World) (h : Lib.IsBuilder 108 5 B b bs w) (hlen : bs.length + s.size ≤ 140737488355328) (hBw : B ≤ w.heap.size) :
    Calls Tryz.prog 82 #[.pointer (some ⟨b, 0, none⟩), .string s] w fun e w' => e = .returned (.tuple #[.int .i64 s.size, .nilIface]) ∧ (Lib.BuilderAt 108 5 B b (.pointer (some ⟨b, 0, none⟩)) (bs ++ Lib.strCells s) w' ∧ Below B w w' ∧ Kt w w') := by
  obtain ⟨i0, hi, hz0, hz1, hz2⟩ := info_parts infoByte
  go_enter Tryz.func82, Tryz.ntmps82
  go_wp2_with fail
  refine (copy_any B b bs _ h).mono ?_
  rintro e w1 ⟨rfl, h1, hb1, hk1⟩
  have HK1 := Lib.hid hk1; clear hk1
  obtain ⟨hB, v, hbk, hown, hne⟩ := h1
  have c0 : w1.cell? ⟨b, 0, none⟩ = some (.pointer (some ⟨b, 0, none⟩)) := by rw [Lib.cell_of_heap hbk]; rfl
  have c1 : w1.cell? ⟨b, 1, none⟩ = some v := by rw [Lib.cell_of_heap hbk]; rfl
  go_wp2_with (at_builtin; refine Lib.wpList_append_own_string _ rfl _ _ 106 9 rfl B 5 i0 Tryz.underlying106 Tryz.underlying9 hi hz0 hz1 hz2 _ _ _ rfl hown s rfl ?c3 ?c4 ?c5 ?_)
  case c3 => unfold maxLen; omega
  case c4 => omega
  case c5 => have := hb1.size; omega
  intro v' w2 hown' hgrow _
  have HK2 : Hid (Kt w w2) := HK1.out.trans (Kt.grown hown hgrow)
  have hlt : b < w1.heap.size := (Array.getElem?_eq_some_iff.1 hbk).1
  have hb2 : w2.heap[b]? = some (.cells #[.pointer (some ⟨b, 0, none⟩), v] 108 (0, 0)) := by
    rw [hgrow.block b hlt (fun e => hne e.symm)]
    exact hbk
  have d0 : w2.cell? ⟨b, 0, none⟩ = some (.pointer (some ⟨b, 0, none⟩)) := by rw [Lib.cell_of_heap hb2]; rfl
  have d1 : w2.cell? ⟨b, 1, none⟩ = some v := by rw [Lib.cell_of_heap hb2]; rfl
  have f1 : w2.frozen? ⟨b, 1, none⟩ = false := Lib.frozen_of_heap hb2 1
  obtain ⟨ao, n', cap, rfl⟩ : ∃ ao n' cap, v' = .slice ao n' cap := by
    rcases hown'.2 with ⟨hv, _⟩ | ⟨g, cap, cur, hv, _⟩
    · exact ⟨_, _, _, hv⟩
    · exact ⟨_, _, _, hv⟩
  go_wp2
  go_ret2
  refine ⟨rfl, ?_, ?_, HK2.out.trans (Kt.setCell hb2 _)⟩
  · exact Lib.BuilderAt.put (T := 108) (e := 5) hB hb2 (bs' := bs ++ Lib.strCells s) (by simpa [Lib.strCells_length] using hown') (by decide)
  · exact (hb1.grown hgrow (by have := hb1.size; omega) (fun k hk => (hown.lt k hk).1)).setCell (p := ⟨b, 1, none⟩) hB _
end Go.Proofs.YtddlohbhchjjhaaGreatDoor

namespace Go.Proofs.YtddlohbhchjjhaaGreatDoor
open Go.RowKit

abbrev Bytes := List UInt8
def ofL (l : Bytes) : ByteArray := ⟨l.toArray⟩
def toL (s : ByteArray) : Bytes := s.data.toList
theorem ofL_toL (s : ByteArray) : ofL (toL s) = s := by cases s; simp [ofL, toL]
theorem size_toL (s : ByteArray) : s.size = (toL s).length := by cases s; rfl
theorem size_ofL (l : Bytes) : (ofL l).size = l.length := rfl

/-! ### numbers -/
def encN (n : Nat) : Bytes := if n < 128 then [UInt8.ofNat n] else UInt8.ofNat (n % 128 + 128) :: encN (n / 128)
  termination_by n
  decreasing_by omega
theorem encN_small {n : Nat} (h : n < 128) : encN n = [UInt8.ofNat n] := by rw [encN, if_pos h]
theorem encN_big {n : Nat} (h : ¬ n < 128) : encN n = UInt8.ofNat (n % 128 + 128) :: encN (n / 128) := by rw [encN, if_neg h]
theorem encN_len : ∀ (k n : Nat), n < 128 ^ (k + 1) → (encN n).length ≤ k + 1
  | 0, n, h => by rw [encN_small (by simpa using h)]; simp
  | k + 1, n, h => by
    by_cases hs : n < 128
    · rw [encN_small hs]; simp
    · rw [encN_big hs, List.length_cons]
      have := encN_len k (n / 128) (by rw [Nat.div_lt_iff_lt_mul (by omega)]; rw [Nat.pow_succ] at h; omega)
      omega
theorem toNat_ofNat8 {n : Nat} (h : n < 256) : (UInt8.ofNat n).toNat = n := by simp [UInt8.toNat_ofNat']; omega

def encT (t : Bytes) : Bytes := encN t.length ++ t
end Go.Proofs.YtddlohbhchjjhaaGreatDoor

namespace Go.Proofs.YtddlohbhchjjhaaGreatDoor
open Go.RowKit Go.Shelf
attribute [local go_sem] Oper.semAt_some

def KeepB (lo : Nat) (A B : World) : Prop := B.heap[lo]? = A.heap[lo]?
theorem keepB_t {lo : Nat} {A B C : World} (h : KeepB lo A B) (k : KeepB lo B C) : KeepB lo A C := k.trans h
theorem keepB_put {lo m : Nat} (h : lo < m) (W : World) (l : Nat) (o : Obj) (hl : m ≤ l) : KeepB lo W (W.putObj l o) := World.putObj_heap_other (by omega)
def StB (lo : Nat) (A B : World) : Prop := ∃ v, B = A.setCell ⟨lo, 0, none⟩ (.int .i64 v)
theorem stB_others {lo : Nat} (A B : World) (h : StB lo A B) : KeepsOthers A B := by
  obtain ⟨v, rfl⟩ := h
  exact KeepsOthers.setCell _ _ _
def numAt (lo : Nat) (w : World) : Nat := match w.cell? ⟨lo, 0, none⟩ with
  | some (.int _ n) => n.toNat
  | _ => 0
theorem numAt_eq {lo : Nat} {w : World} {n : Nat} (h : w.heap[lo]? = some (.cells #[.int .i64 n] 3 (0, 0))) : numAt lo w = n := by
  have := cell_of_one h
  simp [numAt, this]

set_option maxRecDepth 100000 in
set_option maxHeartbeats 1000000 in
theorem digits_st (n lo : Nat) (hn : 1 ≤ n) (m : Nat) (w : World) (hm : m ≤ 9223372036854775807) (hlo : lo < w.heap.size) (h0 : w.heap[lo]? = some (.cells #[.int .i64 m] 3 (0, 0))) :
    SeqP Fence.wide n Tryz.prog 251 #[.pointer (some ⟨lo, 0, none⟩)] (fun x : UInt8 => #[.int .u8 x.toNat]) (KeepB lo) (StB lo)
      (fun pre => ∃ r, pre ++ r = encN m) (fun xs => xs = encN m) (fun pre => ∃ r, pre ++ r = encN m) w := fun l J Jx W hW hJ hY hJ0 => by
  have g0 : W.heap[lo]? = some (.cells #[.int .i64 m] 3 (0, 0)) := (hW.block lo (by omega)).trans h0
  clear hW h0
  have G0 := Lib.hid g0; have HJ := Lib.hid hJ; have HY := Lib.hid hY; have HJ0 := Lib.hid hJ0
  clear g0 hJ hY hJ0
  refine callsIn_of_wp Tryz.func251 rfl trivial ?_ rfl
  simp only [Tryz.ntmps251, List.size_toArray, List.length_cons, List.length_nil, Nat.reduceAdd, Nat.reduceSub, Array.replicate_succ, Array.replicate_zero, List.push_toArray, List.append_toArray, List.nil_append, List.cons_append]
  gi_wp2_with fail
  gi_loopw [3, 4] (fun _ _ wr => ∃ (pre : Bytes) (c : Nat), c ≤ 9223372036854775807 ∧ Hid (wr.heap[lo]? = some (.cells #[.int .i64 c] 3 (0, 0))) ∧ Hid (pre ++ encN c = encN m) ∧ J pre wr)
    (fun _ _ wr => numAt lo wr)
  case atStart => exact ⟨[], m, hm, G0, rfl, HJ0.out⟩
  case round =>
    obtain ⟨pre, c, hc, k0, hsp, hj⟩ := hrel
    have d0 := cell_of_one k0.out
    have f0 := free_of_one k0.out
    have HJR := Lib.hid hj
    clear hj
    by_cases hs : c < 128
    · have e8 := toNat_ofNat8 (n := c) (by omega)
      obtain ⟨fn, tmps, assign, body, hy, hR⟩ := HY.out pre (UInt8.ofNat c) wr ⟨[], by rw [List.append_nil, ← hsp.out, encN_small hs]⟩ HJR.out
      rw [e8] at hy
      have HR := Lib.hid hR
      have HE := Lib.hid (encN_small hs)
      clear hR e8
      have hci : ¬ (128 : Int) ≤ (c : Int) := by omega
      gi_wp2
      refine HR.out.mono ?_
      rintro e W3 (⟨rfl, hJ3, _⟩ | ⟨rfl, hJx3⟩)
      · gi_wp2
        go_end0
        exact ⟨⟨_, rfl⟩, .inl ⟨pre ++ [UInt8.ofNat c], by rw [← hsp.out, HE.out], hJ3⟩⟩
      · gi_wp2
        go_end0
        exact ⟨⟨_, rfl⟩, .inr ⟨pre ++ [UInt8.ofNat c], ⟨[], by rw [← hsp.out, HE.out, List.append_nil]⟩, hJx3⟩⟩
    · have e8 := toNat_ofNat8 (n := c % 128 + 128) (by omega)
      have ei : (((UInt8.ofNat (c % 128 + 128)).toNat : Nat) : Int) = (c : Int) % 128 + 128 := by rw [e8]; omega
      obtain ⟨fn, tmps, assign, body, hy, hR⟩ := HY.out pre (UInt8.ofNat (c % 128 + 128)) wr ⟨encN (c / 128), by rw [← hsp.out, encN_big hs, List.append_assoc]; rfl⟩ HJR.out
      rw [ei] at hy
      have HR := Lib.hid hR
      have HE := Lib.hid (encN_big hs)
      clear hR e8 ei
      have hci : (128 : Int) ≤ (c : Int) := by omega
      gi_wp2
      refine HR.out.mono ?_
      rintro e W3 (⟨rfl, hJ3, hK3⟩ | ⟨rfl, hJx3⟩)
      · have m0 : W3.heap[lo]? = some (.cells #[.int .i64 c] 3 (0, 0)) := hK3.trans k0.out
        have e0 := cell_of_one m0; have q0 := free_of_one m0
        have M0 := Lib.hid m0
        have HJ3 := Lib.hid hJ3
        clear m0 hJ3 hK3 d0 f0
        gi_wp2
        go_roundw
        case rel =>
          refine ⟨pre ++ [UInt8.ofNat (c % 128 + 128)], c / 128, by omega, one_setCell M0.out, ?_, HJ.out _ _ _ HJ3.out ⟨_, rfl⟩⟩
          show _ = _
          rw [← hsp.out, HE.out, List.append_assoc]; rfl
        case measure =>
          have hq := one_setCell (u := .int .i64 ((c / 128 : Nat) : Int)) M0.out
          rw [show (c : Int) / 128 = ((c / 128 : Nat) : Int) by omega, numAt_eq hq, numAt_eq k0.out]
          omega
      · gi_wp2
        refine bodyPost_ret (results_none rfl _ _ _) rfl ?_
        exact ⟨⟨_, rfl⟩, .inr ⟨pre ++ [UInt8.ofNat (c % 128 + 128)], ⟨encN (c / 128), by rw [← hsp.out, HE.out, List.append_assoc]; rfl⟩, hJx3⟩⟩

set_option maxHeartbeats 400000 in
theorem digits_any (m : Int) (w : World) :
    Calls Tryz.prog 247 #[.int .i64 m] w fun e w' => e = .returned (.func (.func 251) #[] #[.pointer (some ⟨w.heap.size, 0, none⟩)]) ∧ w' = w.alloc (.cells #[.int .i64 m] 3) := by
  go_enter Tryz.func247, Tryz.ntmps247
  go_wp2
  go_ret
  exact ⟨rfl, rfl⟩

theorem builder_own {B b : Nat} {p : Value} {bs : List Value} {W W' : World} {row : Option Nat} (h : Lib.BuilderAt 108 5 B b p bs W) (hg : W.grownBy W' row) (hr : ∀ r, row = some r → ∃ o : Obj, W.heap[r]? = some o ∧ o.isCells = false) : Lib.BuilderAt 108 5 B b p bs W' := by
  obtain ⟨hB, v, hb, hown, hne⟩ := h
  have key : ∀ (k : Nat) (cs : Array Value) (t : TypeId) (fr : Nat × Nat), W.heap[k]? = some (Obj.cells cs t fr) → W'.heap[k]? = some (Obj.cells cs t fr) := fun k cs t fr hk =>
    (hg.block k (Array.getElem?_eq_some_iff.1 hk).1 (fun e => by
      obtain ⟨o, ho, hc⟩ := hr k e.symm
      rw [ho] at hk; cases hk; cases hc)).trans hk
  refine ⟨hB, v, key _ _ _ _ hb, ⟨hown.1, ?_⟩, hne⟩
  rcases hown.2 with h0 | ⟨g, cap, cur, hv, h1, hh, h2⟩
  · exact .inl h0
  · exact .inr ⟨g, cap, cur, hv, h1, key _ _ _ _ hh, h2⟩
theorem isBuilder_own {B b : Nat} {bs : List Value} {W W' : World} {row : Option Nat} (h : Lib.IsBuilder 108 5 B b bs W) (hg : W.grownBy W' row) (hr : ∀ r, row = some r → ∃ o : Obj, W.heap[r]? = some o ∧ o.isCells = false) : Lib.IsBuilder 108 5 B b bs W' := by
  rcases h with h | h
  · exact .inl (builder_own h hg hr)
  · exact .inr (builder_own h hg hr)
theorem isBuilder_box {B b lo : Nat} {bs : List Value} {W : World} {v u : Value} (h : Lib.IsBuilder 108 5 B b bs W) (hlo : W.heap[lo]? = some (.cells #[v] 3 (0, 0))) : Lib.IsBuilder 108 5 B b bs (W.setCell ⟨lo, 0, none⟩ u) := by
  have key : ∀ (k : Nat) (cs : Array Value) (t : TypeId) (fr : Nat × Nat), t ≠ 3 → W.heap[k]? = some (Obj.cells cs t fr) → (W.setCell ⟨lo, 0, none⟩ u).heap[k]? = some (Obj.cells cs t fr) := fun k cs t fr h3 hk =>
    (Below.heap_setCell W ⟨lo, 0, none⟩ u k (fun e => by
      have e' : k = lo := e
      rw [e', hlo] at hk
      simp only [Option.some.injEq, Obj.cells.injEq] at hk
      exact h3 hk.2.1.symm)).trans hk
  have one : ∀ p, Lib.BuilderAt 108 5 B b p bs W → Lib.BuilderAt 108 5 B b p bs (W.setCell ⟨lo, 0, none⟩ u) := by
    rintro p ⟨hB, v', hb, hown, hne⟩
    refine ⟨hB, v', key _ _ _ _ (by decide) hb, ⟨hown.1, ?_⟩, hne⟩
    rcases hown.2 with h0 | ⟨g, cap, cur, hv, h1, hh, h2⟩
    · exact .inl h0
    · exact .inr ⟨g, cap, cur, hv, h1, key _ _ _ _ (by decide) hh, h2⟩
  rcases h with h | h
  · exact .inl (one _ h)
  · exact .inr (one _ h)
theorem isBuilder_alloc {B b : Nat} {bs : List Value} {W : World} (h : Lib.IsBuilder 108 5 B b bs W) (o : Obj) : Lib.IsBuilder 108 5 B b bs (W.alloc o) :=
  isBuilder_own h (World.grownBy_alloc W o none) (fun r e => by cases e)

theorem byteCells_snoc (l : Bytes) (x : UInt8) : Lib.byteCells l ++ [.int .u8 x.toNat] = Lib.byteCells (l ++ [x]) := by simp [Lib.byteCells]
theorem byteCells_len (l : Bytes) : (Lib.byteCells l).length = l.length := by simp [Lib.byteCells]

set_option maxRecDepth 100000 in
set_option maxHeartbeats 2000000 in
theorem writeInt_any (B b : Nat) (bs : Bytes) (m : Nat) (w : World) (h : Lib.IsBuilder 108 5 B b (Lib.byteCells bs) w) (hBw : B ≤ w.heap.size) (hm : m ≤ 1099511627776) (hlen : bs.length ≤ 1099511627776) :
    Calls Tryz.prog 240 #[.pointer (some ⟨b, 0, none⟩), .int .i64 m] w fun e w' => e = .returned (.tuple #[]) ∧ Lib.IsBuilder 108 5 B b (Lib.byteCells (bs ++ encN m)) w' ∧ Below B w w' := by
  refine (callsIn_wide (n := 6)).1 ?_
  have hf78 : Fence.wide.fn 247 := trivial
  have hf79 : Fence.wide.fn 248 := trivial
  have HH := Lib.hid h; clear h
  refine callsIn_of_wp_marks Tryz.func240 rfl trivial ?_ rfl
  simp only [Tryz.ntmps240, List.size_toArray, List.length_cons, List.length_nil, Nat.reduceAdd, Nat.reduceSub, Array.replicate_succ, Array.replicate_zero, List.push_toArray, List.append_toArray, List.nil_append, List.cons_append]
  gi_wp2_with (gi_at_call 247; refine (callsIn_wide.2 (digits_any _ _)).mono ?_; rintro e w' ⟨rfl, rfl⟩)
  obtain ⟨W0, hW0⟩ : ∃ W0, (w.alloc (.cells #[.pointer (some ⟨b, 0, none⟩)] 105)).alloc (.cells #[.int .i64 m] 3) = W0 := ⟨_, rfl⟩
  have hz : W0.heap.size = w.heap.size + 2 := by rw [← hW0]; simp
  have g0 : W0.heap[w.heap.size]? = some (.cells #[.pointer (some ⟨b, 0, none⟩)] 105 (0, 0)) := by
    rw [← hW0]
    exact (Below.heap_alloc _ _ _ (by simp)).trans (World.alloc_heap_new w _)
  have g1 : W0.heap[w.heap.size + 1]? = some (.cells #[.int .i64 m] 3 (0, 0)) := by
    rw [← hW0]
    have := World.alloc_heap_new (w.alloc (.cells #[.pointer (some ⟨b, 0, none⟩)] 105)) (.cells #[.int .i64 m] 3); rwa [World.size_alloc] at this
  have hb0 : Below B w W0 := by
    rw [← hW0]
    exact ((Below.refl _ w).alloc hBw _).alloc (by simp; omega) _
  have hbd : Lib.IsBuilder 108 5 B b (Lib.byteCells bs) W0 := by
    rw [← hW0]; exact isBuilder_alloc (isBuilder_alloc HH.out _) _
  rw [hW0]
  refine wpIn_rangeP (F := Fence.wide) (n := 6) rfl (by omega) (gf := 251) (lb := #[.pointer (some ⟨w.heap.size + 1, 0, none⟩)]) rfl trivial (enters_of Tryz.func251 (by kernel_rfl) rfl)
    (digits_st 5 (w.heap.size + 1) (by omega) m W0 (by omega) (by omega) g1) keepB_t (fun W l o hl => keepB_put (m := w.heap.size + 2) (by omega) W l o (by omega)) stB_others (Below.refl _ _) (fun _ => rfl)
    (fun pre W => W.heap[w.heap.size]? = some (.cells #[.pointer (some ⟨b, 0, none⟩)] 105 (0, 0)) ∧ (∃ c, W.heap[w.heap.size + 1]? = some (.cells #[.int .i64 c] 3 (0, 0))) ∧ Lib.IsBuilder 108 5 B b (Lib.byteCells (bs ++ pre)) W ∧ Below B w W)
    (fun _ _ _ => False) ?hI ?hIx ?hIS ⟨g0, ⟨_, g1⟩, by rw [List.append_nil]; exact hbd, hb0⟩
    (fun x => { tmps := #[.pointer (some ⟨b, 0, none⟩), .int .i64 m, .pointer (some ⟨w.heap.size, 0, none⟩), undef, .int .u8 x.toNat, .int .i64 m, .func (.func 251) #[] #[.pointer (some ⟨w.heap.size + 1, 0, none⟩)], .int .u8 x.toNat, undef, undef, undef], defers := [] }) ?assign ?body ?done ?stop
  case hI =>
    rintro pre A C row ⟨h1, ⟨c, h2⟩, h3, h4⟩ hg hr
    have hnc : ∀ r, row = some r → ∃ o : Obj, A.heap[r]? = some o ∧ o.isCells = false := fun r e => (hr r e).2
    have key : ∀ (k : Nat) (v : Value) (t : TypeId), A.heap[k]? = some (Obj.cells #[v] t (0, 0)) → C.heap[k]? = some (Obj.cells #[v] t (0, 0)) := fun k v t hk =>
      (hg.block k (lt_of_block hk) (fun e => by
        obtain ⟨o, ho, hc⟩ := hnc k e.symm
        rw [ho] at hk; cases hk; cases hc)).trans hk
    exact ⟨key _ _ _ h1, ⟨c, key _ _ _ h2⟩, isBuilder_own h3 hg hnc, h4.grown hg (Nat.le_trans hBw h4.size) (fun k e => by have := (hr _ e).1; omega)⟩
  case hIx => rintro c pre A C row hf _ _; exact hf
  case hIS =>
    rintro pre A C ⟨h1, ⟨c, h2⟩, h3, h4⟩ ⟨v, rfl⟩
    exact ⟨(Below.heap_setCell _ _ _ _ (by simp)).trans h1, ⟨v, one_setCell h2⟩, isBuilder_box h3 h2, h4.setCell (p := ⟨w.heap.size + 1, 0, none⟩) (by show B ≤ w.heap.size + 1; omega) _⟩
  case assign =>
    intro l x W K hK
    gi_wp2
    exact hK
  case body =>
    rintro l pre x W ⟨r, hr⟩ ⟨h1, ⟨c, h2⟩, h3, h4⟩
    have c0 := cell_of_one h1
    have hpl : pre.length + 1 ≤ 6 := by
      have e1 := congrArg List.length hr
      have e2 := encN_len 5 m (by omega)
      simp at e1; omega
    have H1 := Lib.hid h1; have H2 := Lib.hid h2; have H3 := Lib.hid h3; have H4 := Lib.hid h4
    clear h1 h2 h3 h4 g0 g1 hb0 hW0 hz hbd hr
    gi_wp2_with (gi_at_call 248; refine (CallsIn.inRound l (callsIn_wide.2 (writeByte_any B b (Lib.byteCells (bs ++ pre)) _ _ H3.out (by rw [byteCells_len, List.length_append]; omega) (Nat.le_trans hBw H4.out.size)))).mono ?_; rintro e w' ⟨rfl, k1, k2, k3⟩)
    refine ⟨k3.others, ?_, ?_⟩
    · show _ = _
      rw [k3.same _ _ _ _ (by decide) (by decide) H2.out, H2.out]
    · refine ⟨k3.same _ _ _ _ (by decide) (by decide) H1.out, ⟨c, k3.same _ _ _ _ (by decide) (by decide) H2.out⟩, ?_, H4.out.trans k2⟩
      rw [byteCells_snoc, List.append_assoc] at k1
      exact .inr k1
  case done =>
    rintro D xs W hD rfl ⟨h1, _, h3, h4⟩ hK
    have H3 := Lib.hid h3; have H4 := Lib.hid h4; have HK := Lib.hid hK
    clear h1 h3 h4 hK
    gi_wp2
    refine ⟨by simp, .inl ⟨_, _, rfl, run_takeDeferred HK.out, ?_⟩⟩
    refine ⟨_, results_none rfl _ _ _, rfl, ?_, ?_⟩
    · exact isBuilder_own H3.out (grownBy_putObj' _ _ _) (fun r e => by cases e; exact ⟨_, HK.out, rfl⟩)
    · exact H4.out.grown (grownBy_putObj' _ _ _) (Nat.le_trans hBw H4.out.size) (fun k e => by cases e; omega)
  case stop =>
    rintro D c pre W hD hS hf hK
    exact hf.elim
end Go.Proofs.YtddlohbhchjjhaaGreatDoor

namespace Go.Proofs.YtddlohbhchjjhaaGreatDoor
open Go.RowKit

theorem strCells_eq (s : ByteArray) : Lib.strCells s = Lib.byteCells (toL s) := by simp [Lib.strCells, Lib.byteCells, toL]
theorem inRange_any (n : Nat) (hn : n ≤ 1099511627776) (w : World) : Calls Tryz.prog 239 #[.int .i64 n] w fun e w' => e = .returned (.bool true) ∧ w = w' := by
  have h0 : (0 : Int) ≤ (n : Int) := by omega
  have h1 : (n : Int) ≤ 1099511627776 := by omega
  go_enter Tryz.func239, Tryz.ntmps239
  go_wp2
  go_ret
  exact ⟨rfl, rfl⟩

set_option maxHeartbeats 1000000 in
theorem putInt_any (n : Nat) (hn : n ≤ 1099511627776) (w : World) :
    Calls Tryz.prog 225 #[.int .i64 n] w fun e w' => e = .returned (.tuple #[.string (ofL (encN n)), .int .i64 0]) ∧ Below w.heap.size w w' := by
  go_enter Tryz.func225, Tryz.ntmps225
  go_wp2_with (go_at_call 239; refine (inRange_any n hn _).mono ?_; rintro e w' ⟨rfl, rfl⟩)
  have hb := Lib.fresh_isBuilder 108 5 w
  refine (writeInt_any w.heap.size w.heap.size [] n _ hb (by simp) hn (by simp)).mono ?_
  rintro e w1 ⟨rfl, h1, hb1⟩
  rw [List.nil_append] at h1
  have H1 := Lib.hid h1
  have HB1 : Hid (Below w.heap.size w w1) := ((Below.refl _ w).alloc (Nat.le_refl _) _).trans hb1
  clear hb hb1 h1
  go_wp2_with fail
  refine (Tryz.Builder_String_any w.heap.size w.heap.size (encN n) _ H1.out HB1.out.size).mono ?_
  rintro e w2 ⟨rfl, hb2⟩
  have HB2 := Lib.hid (HB1.out.trans hb2); clear hb2
  go_wp2_with fail
  go_ret2
  exact ⟨rfl, HB2.out⟩

set_option maxHeartbeats 1000000 in
theorem putText_any (s : ByteArray) (hs : s.size ≤ 65536) (w : World) :
    Calls Tryz.prog 226 #[.string s] w fun e w' => e = .returned (.tuple #[.string (ofL (encT (toL s))), .int .i64 0]) ∧ Below w.heap.size w w' := by
  have hsi : ¬ (65536 : Int) < (s.size : Int) := by omega
  have hsz := size_toL s
  have HSZ := Lib.hid hsz; clear hsz
  go_enter Tryz.func226, Tryz.ntmps226
  go_wp2_with fail
  have hb := Lib.fresh_isBuilder 108 5 w
  refine (writeInt_any w.heap.size w.heap.size [] s.size _ hb (by simp) (by omega) (by simp)).mono ?_
  rintro e w1 ⟨rfl, h1, hb1⟩
  rw [List.nil_append] at h1
  have H1 := Lib.hid h1
  have HB1 : Hid (Below w.heap.size w w1) := ((Below.refl _ w).alloc (Nat.le_refl _) _).trans hb1
  clear hb hb1 h1
  go_wp2_with fail
  refine (writeString_any w.heap.size w.heap.size (Lib.byteCells (encN s.size)) s _ H1.out (by rw [byteCells_len]; have := encN_len 5 s.size (by omega); omega) HB1.out.size).mono ?_
  rintro e w2 ⟨rfl, h2, hb2, _⟩
  have H2 : Hid (Lib.IsBuilder 108 5 w.heap.size w.heap.size (Lib.byteCells (encT (toL s))) w2) := by
    refine .inr ?_
    have e1 : Lib.byteCells (encN s.size) ++ Lib.strCells s = Lib.byteCells (encT (toL s)) := by
      rw [strCells_eq]; unfold encT; rw [← HSZ.out]; simp [Lib.byteCells]
    rw [← e1]; exact h2
  have HB2 := Lib.hid (HB1.out.trans hb2)
  clear hb2 h2
  go_wp2_with fail
  refine (Tryz.Builder_String_any w.heap.size w.heap.size _ _ H2.out HB2.out.size).mono ?_
  rintro e w3 ⟨rfl, hb3⟩
  have HB3 := Lib.hid (HB2.out.trans hb3); clear hb3
  go_wp2_with fail
  go_ret2
  exact ⟨rfl, HB3.out⟩
end Go.Proofs.YtddlohbhchjjhaaGreatDoor

namespace Go.Proofs.YtddlohbhchjjhaaGreatDoor
open Go.RowKit

def bc (l : Bytes) : List Value := l.map fun b => Value.int .u8 b.toNat
theorem bc_len (l : Bytes) : (bc l).length = l.length := by simp [bc]
theorem bc_append (l r : Bytes) : bc (l ++ r) = bc l ++ bc r := by simp [bc]

structure Txt (w : World) (base av : Nat) (A : Option Addr) (n c : Nat) (bs : Bytes) : Prop where
  len : bs.length = n
  le : n ≤ c
  max : c ≤ maxLen
  lies : 0 < c → ∃ b off, A = some ⟨b, off, none⟩ ∧ (base ≤ b ∧ b ≠ av) ∧ b < w.heap.size ∧ (∀ j, j < n → w.cell? ⟨b, off + j, none⟩ = (bc bs)[j]?) ∧ (∀ j, j < c → (w.cell? ⟨b, off + j, none⟩).isSome = true ∧ w.frozen? ⟨b, off + j, none⟩ = false)

section
variable {w w' : World} {base av n c : Nat} {A : Option Addr} {bs : Bytes}
theorem Txt.nil (w : World) (base av : Nat) (A : Option Addr) : Txt w base av A 0 0 [] := ⟨rfl, Nat.le_refl _, Nat.zero_le _, fun h => absurd h (by omega)⟩
theorem Txt.keep (h : Txt w base av A n c bs) (hs : w.heap.size ≤ w'.heap.size) (hk : ∀ k, k < w.heap.size → w'.heap[k]? = w.heap[k]?) : Txt w' base av A n c bs :=
  ⟨h.len, h.le, h.max, fun h0 => by
    obtain ⟨b, off, e, hb, hl, hc, hf⟩ := h.lies h0
    have ec : ∀ o, w'.cell? ⟨b, o, none⟩ = w.cell? ⟨b, o, none⟩ := fun o => World.cell?_of_block (a := ⟨b, o, none⟩) (hk b hl)
    have ef : ∀ o, w'.frozen? ⟨b, o, none⟩ = w.frozen? ⟨b, o, none⟩ := fun o => World.frozen?_of_block (a := ⟨b, o, none⟩) (hk b hl)
    exact ⟨b, off, e, hb, by omega, fun j hj => (ec _).trans (hc j hj), fun j hj => ⟨by rw [ec]; exact (hf j hj).1, (ef _).trans (hf j hj).2⟩⟩⟩
theorem Txt.below (h : Txt w base av A n c bs) (hb : Below w.heap.size w w') : Txt w' base av A n c bs := h.keep hb.size fun k hk => hb.block k hk
theorem setCells_below {B b : Nat} (hb : B ≤ b) : ∀ (vs : List Value) (o : Nat) (w : World), Below B w (w.setCells b o vs)
  | [], _, w => Below.refl _ w
  | v :: vs, o, w => ((Below.refl B w).setCell (p := ⟨b, o, none⟩) hb v).trans (setCells_below hb vs (o + 1) _)
theorem setCells_size (b : Nat) : ∀ (vs : List Value) (o : Nat) (w : World), (w.setCells b o vs).heap.size = w.heap.size
  | [], _, _ => rfl
  | v :: vs, o, w => by
    show ((w.setCell ⟨b, o, none⟩ v).setCells b (o + 1) vs).heap.size = _
    rw [setCells_size b vs]; simp

theorem setCells_other {b k : Nat} (hb : b ≠ k) : ∀ (vs : List Value) (o : Nat) (w : World), (w.setCells b o vs).heap[k]? = w.heap[k]?
  | [], _, _ => rfl
  | v :: vs, o, w => (setCells_other hb vs (o + 1) _).trans (Below.heap_setCell w ⟨b, o, none⟩ v k (fun e => hb e.symm))

variable {P : Program}
theorem Txt.run_append (h : Txt w base av A n c bs) (t tx ty e : TypeId) (i : TypeInfo) (ht : P.underlying t = some (.slice e)) (hi : P.info? e = some i) (hz : i.zero = some (.int .u8 0)) (hsize : i.size = 1) (hby : i.bytes = 1)
    (x : Value) (m : Nat) (ys : Bytes) (hs : Src P 1 tx x m (bc ys) w) (hmax : n + m ≤ 140737488355328) (hbase : base ≤ w.heap.size) (hav : av < w.heap.size) :
    ∃ A' c' w', (Builtin.append_ #[t, tx] ty #[.slice A n c, x]).run P w = .ok (.slice A' (n + m) c') w' ∧ Txt w' base av A' (n + m) c' (bs ++ ys) ∧ Below base w w' ∧ w'.heap[av]? = w.heap[av]? := by
  have hnl := hs.newsLen
  rw [bc_len, Nat.mul_one] at hnl
  have hs' : Src P i.size tx x m (bc ys) w := by rw [hsize]; exact hs
  by_cases hfit : n + m ≤ c
  · rcases Nat.eq_zero_or_pos c with h0 | hc
    · subst h0
      obtain rfl : n = 0 := by omega
      obtain rfl : m = 0 := by omega
      obtain rfl : ys = [] := List.eq_nil_of_length_eq_zero hnl
      exact ⟨A, 0, w, run_append_nothing (P := P) w t tx ty e i ht hi A 0 0 (Nat.le_refl _) x hs', by simpa using h, Below.refl _ _, rfl⟩
    · obtain ⟨b, off, rfl, hb, hl, hcell, hfree⟩ := h.lies hc
      have hsome : ∀ j, j < (bc ys).length → (w.cell? ⟨b, off + n * i.size + j, none⟩).isSome = true := fun j hj => by
        rw [bc_len] at hj
        rw [hsize, Nat.mul_one, Nat.add_assoc]; exact (hfree (n + j) (by omega)).1
      have hrun := run_append_room_src (P := P) w t tx ty e i ht hi b off n c x m (bc ys) hs' hfit hsome (fun j hj => by
        rw [bc_len] at hj
        rw [hsize, Nat.mul_one, Nat.add_assoc]; exact (hfree (n + j) (by omega)).2)
      refine ⟨_, _, _, hrun, ⟨by rw [List.length_append, h.len]; omega, hfit, h.max, fun _ => ⟨b, off, rfl, hb, by rw [setCells_size]; exact hl, fun j hj => ?_, fun j hj => ⟨?_, ?_⟩⟩⟩, setCells_below hb.1 _ _ _, setCells_other hb.2 _ _ _⟩
      · by_cases hj' : j < n
        · rw [World.cell?_setCells_out b _ _ _ _ (fun _ _ => .inl (by show off + j < off + n * i.size; rw [hsize]; omega)), hcell j hj', bc_append, List.getElem?_append_left (by rw [bc_len, h.len]; exact hj')]
        · have := World.cell?_setCells_in b (bc ys) (off + n * i.size) w hsome (j - n) (by rw [bc_len]; omega)
          rw [hsize, Nat.mul_one, show off + n + (j - n) = off + j by omega] at this
          rw [hsize, Nat.mul_one, this, bc_append, List.getElem?_append_right (by rw [bc_len, h.len]; omega), show (bc bs).length = n by rw [bc_len, h.len]]
          exact (List.getElem?_eq_getElem _).symm
      · by_cases hj' : n ≤ j ∧ j < n + m
        · have := World.cell?_setCells_in b (bc ys) (off + n * i.size) w hsome (j - n) (by rw [bc_len]; omega)
          rw [hsize, Nat.mul_one, show off + n + (j - n) = off + j by omega] at this
          rw [hsize, Nat.mul_one, this]; rfl
        · rw [World.cell?_setCells_out b _ _ _ _ (fun _ _ => by show off + j < off + n * i.size ∨ off + n * i.size + (bc ys).length ≤ off + j; rw [hsize, bc_len]; omega)]
          exact (hfree j hj).1
      · rw [World.frozen?_setCells]; exact (hfree j hj).2
  · have hold : (Builtin.firstCells i.size n (.slice A n c)).run P w.drew = .ok (bc bs).toArray w.drew := by
      rw [hsize]
      rcases Nat.eq_zero_or_pos c with h0 | hc
      · subst h0
        obtain rfl : n = 0 := by have := h.le; omega
        obtain rfl : bs = [] := List.eq_nil_of_length_eq_zero h.len
        cases A with
        | none => exact run_firstCells_none w.drew 1 0 0 0
        | some a' => exact run_firstCells_some w.drew 1 0 a' 0 0 [] (by simp) (by intro _ _ h'; simp at h')
      · obtain ⟨b, off, rfl, hb, hl, hcell, hfree⟩ := h.lies hc
        refine run_firstCells_some w.drew 1 n ⟨b, off, none⟩ n c (bc bs) (by rw [bc_len, h.len]; omega) (fun j u hu => ?_)
        rw [Addr.add_lit]
        have hj : j < n := by have := (List.getElem?_eq_some_iff.1 hu).1; rwa [bc_len, h.len] at this
        exact (hcell j hj).trans hu
    have hg : c < n + m := by omega
    have h63 : n + m ≤ maxLen := by unfold maxLen; omega
    have hrun := run_append_grow_src (P := P) w t tx ty e i (.int .u8 0) ht hi hz A n c (bc bs) hold x m (bc ys) hs' hg (by omega) (growslice_fits hg (by rw [hby]; omega))
    have hge := grownCap_ge w (n + m) c e
    have hcm := grownCap_le_maxLen w (n + m) c e h63
    refine ⟨_, _, _, hrun, ⟨by rw [List.length_append, h.len]; omega, hge, hcm, fun _ => ⟨w.heap.size, 0, rfl, ⟨hbase, by omega⟩, ?_, fun j hj => ?_, fun j hj => ⟨?_, ?_⟩⟩⟩, ((Below.refl base w).drew).alloc hbase _, Below.heap_alloc w.drew _ av hav⟩
    · have : (w.drew.alloc (.cells ((bc bs ++ bc ys).toArray ++ Builtin.zeroCells (Value.int .u8 0).cells (grownCap w (n + m) c e - (n + m))) e)).heap.size = w.heap.size + 1 := World.size_alloc _ _
      omega
    · have e1 : (w.drew.alloc (.cells ((bc bs ++ bc ys).toArray ++ Builtin.zeroCells (Value.int .u8 0).cells (grownCap w (n + m) c e - (n + m))) e)).cell? ⟨w.heap.size, j, none⟩ = _ := World.cell?_alloc_new w.drew _ _ j
      rw [Nat.zero_add, e1, Array.getElem?_append_left (by simp only [List.size_toArray, List.length_append, bc_len, h.len]; omega), List.getElem?_toArray, bc_append]
    · have e1 : (w.drew.alloc (.cells ((bc bs ++ bc ys).toArray ++ Builtin.zeroCells (Value.int .u8 0).cells (grownCap w (n + m) c e - (n + m))) e)).cell? ⟨w.heap.size, j, none⟩ = _ := World.cell?_alloc_new w.drew _ _ j
      rw [Nat.zero_add, e1]
      have hsz : ((bc bs ++ bc ys).toArray ++ Builtin.zeroCells (Value.int .u8 0).cells (grownCap w (n + m) c e - (n + m))).size = grownCap w (n + m) c e := by
        rw [Array.size_append, List.size_toArray, List.length_append, bc_len, bc_len, h.len, hnl, size_zeroCells]
        show n + m + (grownCap w (n + m) c e - (n + m)) * 1 = _
        omega
      rw [Array.getElem?_eq_getElem (by rw [hsz]; exact hj)]
      rfl
    · rw [Nat.zero_add]; exact World.frozen?_alloc_new w.drew _ _ j

theorem wpList_append_txt {ops : Array Oper} {rest : List Oper} {o : Oper} {a : Act} {Q : Exit → Act → World → Prop} (hgd : o.guard = none) (s x : Operand) (t tx : TypeId)
    (ho : o.op = .call { callee := .builtin .append, args := #[s, x], argTypes := #[t, tx] })
    (e : TypeId) (i : TypeInfo) (ht : P.underlying t = some (.slice e)) (hi : P.info? e = some i) (hz : i.zero = some (.int .u8 0)) (hsize : i.size = 1) (hby : i.bytes = 1)
    (A : Option Addr) (n c : Nat) (bs : Bytes) (hv : a.eval s = .slice A n c) (h : Txt w base av A n c bs)
    (xv : Value) (m : Nat) (ys : Bytes) (hx : a.eval x = xv) (hs : Src P 1 tx xv m (bc ys) w) (hmax : n + m ≤ 140737488355328) (hbase : base ≤ w.heap.size) (hav : av < w.heap.size)
    (hK : ∀ A' c' w', Txt w' base av A' (n + m) c' (bs ++ ys) → Below base w w' → w'.heap[av]? = w.heap[av]? → wpList P ops Q rest (a.put o.dst (.slice A' (n + m) c')) w') : wpList P ops Q (o :: rest) a w := by
  refine wpList_plain hgd fun K hK' => ?_
  obtain ⟨A', c', w', hrun, h1, h2, h3⟩ := h.run_append (P := P) t tx o.type e i ht hi hz hsize hby xv m ys hs hmax hbase hav
  unfold Oper.wp
  simp [execOp, ho, resolve, invoke, builtin, hv, hx, hrun, Result.andThen]
  exact hK' _ _ (hK A' c' w' h1 h2 h3)

theorem Txt.run_string (h : Txt w base av A n c bs) (src dst e : TypeId) (hs : P.underlying src = some (.slice e)) (he : P.underlying e = some (.int .u8)) (hd : P.underlying dst = some .string) :
    (convert src dst (.slice A n c)).run P w = .ok (.string (ofL bs)) w := by
  rcases Nat.eq_zero_or_pos c with h0 | hc
  · subst h0
    obtain rfl : n = 0 := by have := h.le; omega
    obtain rfl : bs = [] := List.eq_nil_of_length_eq_zero h.len
    cases A with
    | none => exact run_convert_bytes_nil w src e hs he 0 0 dst hd
    | some a => exact run_convert_bytes_back w src dst e a 0 [] hs he hd (fun j hj => by simp at hj)
  · obtain ⟨b, off, rfl, _, _, hcell, _⟩ := h.lies hc
    have := run_convert_bytes_back (P := P) w src dst e ⟨b, off, none⟩ c bs hs he hd (fun j hj => by
      rw [Addr.add_lit, hcell j (by rw [← h.len]; exact hj)]
      simp [bc, List.getElem?_eq_getElem hj])
    rw [h.len] at this
    exact this
end
end Go.Proofs.YtddlohbhchjjhaaGreatDoor
