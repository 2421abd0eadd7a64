/-
  What refs are, in plain Lean: lists of names with digests, updates, and what the functions of layer 11 answer. No program in sight.
-/
import Derived.Test.YtikmiabncbhioaaDoorSplit
import Derived.Maps.OwnSet
import Derived.Sort.KeysCollected
namespace Go.Proofs.YtikmiabncbhioaaDoor
open Go.RowKit Go.Maps

abbrev Dig := Int × Int
abbrev Rf := ByteArray × Dig
abbrev Upd := ByteArray × Dig × Dig

def upC (u : Upd) : List Value := [.string u.1, .int .u64 u.2.1.1, .int .u64 u.2.1.2, .int .u64 u.2.2.1, .int .u64 u.2.2.2]
def rfC (r : Rf) : List Value := [.string r.1, .int .u64 r.2.1, .int .u64 r.2.2]
theorem upC_len (u : Upd) : (upC u).length = 5 := rfl
theorem rfC_len (r : Rf) : (rfC r).length = 3 := rfl
def digV (d : Dig) : Value := .agg #[.int .u64 d.1, .int .u64 d.2]
def updV (u : Upd) : Value := .agg #[.string u.1, .int .u64 u.2.1.1, .int .u64 u.2.1.2, .int .u64 u.2.2.1, .int .u64 u.2.2.2]

/-- the digest that a name has -/
def getL : List Rf → ByteArray → Dig
  | [], _ => (0, 0)
  | r :: l, s => if r.1 = s then r.2 else getL l s
def less (s t : ByteArray) : Bool := Op.bytesLess s.data.toList t.data.toList
/-- the refs in which a name has a digest -/
def setL : List Rf → ByteArray → Dig → List Rf
  | [], s, d => if d = (0, 0) then [] else [(s, d)]
  | r :: l, s, d => if less r.1 s then r :: setL l s d else (if d = (0, 0) then [] else [(s, d)]) ++ (if r.1 = s then l else r :: l)
def properE (u : Upd) : Int := if nameB u.1 then (if u.2.1 = u.2.2 then 1 else 0) else 6
def errU (l : List Rf) (u : Upd) : Int := if properE u ≠ 0 then properE u else if getL l u.1 ≠ u.2.1 then 17 else 0
/-- the refs to which updates lead, and the first error -/
def runU : List Rf → List Upd → List Rf × Int
  | l, [] => (l, 0)
  | l, u :: us => if errU l u ≠ 0 then (l, errU l u) else runU (setL l u.1 u.2.2) us
def checkE (rs : List Rf) (log : List Upd) : Int :=
  if 1000 < log.length then 4 else if (runU [] log).2 ≠ 0 then (runU [] log).2 else if (runU [] log).1 = rs then 0 else 11
/-- updates on refs that are valid: the refs, the log, the first error -/
def applyU : List Rf → List Upd → List Upd → List Rf × List Upd × Int
  | l, log, [] => (l, log, 0)
  | l, log, u :: us => if errU l u ≠ 0 then ([], [], errU l u) else if 1000 ≤ log.length then ([], [], 4) else applyU (setL l u.1 u.2.2) (log ++ [u]) us
def applyR (rs : List Rf) (log us : List Upd) : List Rf × List Upd × Int :=
  if checkE rs log ≠ 0 then ([], [], checkE rs log) else applyU rs log us

/-! ### maps that hold refs -/
def encD (d : Dig) : DataW Unit := .agg [.lit (.int .u64 d.1), .lit (.int .u64 d.2)]
def ent (r : Rf) : Lit × DataW Unit := (.string r.1.data.toList, encD r.2)
def mapD (l : List Rf) : DataW Unit := .map (l.map ent)
/-- how a digest reads as the element of a map -/
def digR : Value → Option (DataW Unit × List MemPlace)
  | .agg cs => match cs.toList with
    | [.int .u64 a, .int .u64 b] => some (encD (a, b), [])
    | _ => none
  | _ => none
theorem digR_mk (d : Dig) : digR (digV d) = some (encD d, []) := rfl
theorem digR_inv {v : Value} {d : Dig} {ps : List MemPlace} (h : digR v = some (encD d, ps)) : v = digV d := by
  unfold digR at h
  split at h
  · rename_i cs
    split at h
    · rename_i a b hc
      simp only [Option.some.injEq, Prod.mk.injEq, encD, DataW.agg.injEq, List.cons.injEq, DataW.lit.injEq, Lit.int.injEq, true_and, and_true] at h
      obtain ⟨⟨h1, h2⟩, _⟩ := h
      have : cs = #[.int .u64 a, .int .u64 b] := Array.toList_inj.1 hc
      rw [this, h1, h2]; rfl
    · cases h
  · cases h

theorem data_inj {s t : ByteArray} (h : s.data.toList = t.data.toList) : s = t := by
  cases s; cases t; congr 1; exact Array.toList_inj.1 h
theorem sameKey_str (a b : List UInt8) : (Lit.string a).sameKey (.string b) = (a == b) := rfl
theorem mapD_at (l : List Rf) (s : ByteArray) : (mapD l).atKey (.string s.data.toList) (encD (0, 0)) = encD (getL l s) := by
  unfold mapD DataW.atKey
  induction l with
  | nil => rfl
  | cons r l ih =>
    simp only [List.map_cons, List.find?_cons, getL]
    by_cases e : r.1 = s
    · simp [ent, e, sameKey_str]
    · have : ((ent r).1.sameKey (.string s.data.toList)) = false := by
        simp only [ent, sameKey_str, beq_eq_false_iff_ne]
        exact fun h => e (data_inj h)
      rw [this]
      simpa [e] using ih

theorem before_less : ∀ (a b : List UInt8), bytesBefore a b = Op.bytesLess a b
  | [], [] => rfl
  | [], _ :: _ => rfl
  | _ :: _, [] => rfl
  | a :: r, b :: s => by simp [bytesBefore, Op.bytesLess, before_less r s]
theorem less_irrefl : ∀ (a : List UInt8), Op.bytesLess a a = false
  | [] => rfl
  | a :: r => by simp [Op.bytesLess, less_irrefl r]
theorem less_trans : ∀ (a b c : List UInt8), Op.bytesLess a b = true → Op.bytesLess b c = true → Op.bytesLess a c = true
  | [], [], _ => by simp [Op.bytesLess]
  | [], _ :: _, [] => by simp [Op.bytesLess]
  | [], _ :: _, _ :: _ => by simp [Op.bytesLess]
  | _ :: _, [], _ => by simp [Op.bytesLess]
  | _ :: _, _ :: _, [] => by simp [Op.bytesLess]
  | a :: r, b :: s, c :: t => by
    simp only [Op.bytesLess, Bool.or_eq_true, Bool.and_eq_true, decide_eq_true_eq, beq_iff_eq]
    rintro (h1 | ⟨rfl, h1⟩) (h2 | ⟨rfl, h2⟩)
    · exact .inl (UInt8.lt_trans h1 h2)
    · exact .inl h1
    · exact .inl h2
    · exact .inr ⟨rfl, less_trans r s t h1 h2⟩
theorem less_conn : ∀ (a b : List UInt8), Op.bytesLess a b = false → Op.bytesLess b a = false → a = b
  | [], [] => fun _ _ => rfl
  | [], _ :: _ => by simp [Op.bytesLess]
  | _ :: _, [] => by simp [Op.bytesLess]
  | a :: r, b :: s => by
    simp only [Op.bytesLess, Bool.or_eq_false_iff, Bool.and_eq_false_iff, decide_eq_false_iff_not, beq_eq_false_iff_ne]
    rintro ⟨h1, h2⟩ ⟨h3, h4⟩
    have e : a = b := by
      apply UInt8.toNat_inj.1
      rw [UInt8.lt_iff_toNat_lt] at h1 h3
      omega
    subst e
    rcases h2 with h2 | h2
    · exact absurd rfl h2
    · rcases h4 with h4 | h4
      · exact absurd rfl h4
      · rw [less_conn r s h2 h4]

/-- in ascending order of the names -/
def Srt (l : List Rf) : Prop := l.Pairwise (fun a b => less a.1 b.1 = true)

theorem filter_notin (l : List Rf) (s : ByteArray) (h : ∀ r ∈ l, r.1 ≠ s) : (l.map ent).filter (fun p => !p.1.sameKey (.string s.data.toList)) = l.map ent := by
  rw [List.filter_eq_self]
  intro p hp
  obtain ⟨r, hr, rfl⟩ := List.mem_map.1 hp
  simp only [ent, sameKey_str, Bool.not_eq_true', beq_eq_false_iff_ne]
  exact fun e => h r hr (data_inj e)
theorem srt_ne {r : Rf} {l : List Rf} {s : ByteArray} (h : Srt (r :: l)) (hs : less r.1 s = false) : ∀ q ∈ l, q.1 ≠ s := by
  intro q hq e
  have := (List.pairwise_cons.1 h).1 q hq
  rw [e, hs] at this; cases this
theorem mapD_del (l : List Rf) (s : ByteArray) (h : Srt l) : (mapD l).del (.string s.data.toList) = mapD (setL l s (0, 0)) := by
  show DataW.map (List.filter (fun p => !p.1.sameKey (.string s.data.toList)) (l.map ent)) = DataW.map _
  congr 1
  induction l with
  | nil => rfl
  | cons r l ih =>
    have hc := List.pairwise_cons.1 h
    simp only [List.map_cons, setL]
    by_cases hl : less r.1 s = true
    · have hne : r.1 ≠ s := by
        intro e; rw [e] at hl; unfold less at hl; rw [less_irrefl] at hl; cases hl
      rw [if_pos hl, List.filter_cons_of_pos (by simp only [ent, sameKey_str, Bool.not_eq_true', beq_eq_false_iff_ne]; exact fun e => hne (data_inj e)), ih hc.2]
      rfl
    · have hl' : less r.1 s = false := by simpa using hl
      rw [if_neg hl]
      simp only [if_true, List.nil_append]
      by_cases e : r.1 = s
      · rw [if_pos e, List.filter_cons_of_neg (by simp [ent, sameKey_str, e]), filter_notin l s (srt_ne h hl')]
      · rw [if_neg e, List.filter_cons_of_pos (by simp only [ent, sameKey_str, Bool.not_eq_true', beq_eq_false_iff_ne]; exact fun e' => e (data_inj e')), filter_notin l s (srt_ne h hl')]
        rfl
theorem mapD_put (l : List Rf) (s : ByteArray) (d : Dig) (hd : d ≠ (0, 0)) (h : Srt l) : (mapD l).put (.string s.data.toList) (encD d) = mapD (setL l s d) := by
  show DataW.map (DataW.insert (Lit.string s.data.toList, encD d) (List.filter (fun p => !p.1.sameKey (.string s.data.toList)) (l.map ent))) = DataW.map _
  congr 1
  induction l with
  | nil => simp [setL, hd, DataW.insert, ent]
  | cons r l ih =>
    have hc := List.pairwise_cons.1 h
    simp only [List.map_cons, setL]
    by_cases hl : less r.1 s = true
    · have hne : r.1 ≠ s := by
        intro e; rw [e] at hl; unfold less at hl; rw [less_irrefl] at hl; cases hl
      have hb : (Lit.string s.data.toList).before (ent r).1 = false := by
        show bytesBefore _ _ = false
        rw [before_less]
        cases hx : Op.bytesLess s.data.toList r.1.data.toList with
        | false => rfl
        | true => have := less_trans _ _ _ hl hx; rw [less_irrefl] at this; cases this
      rw [if_pos hl, List.filter_cons_of_pos (by simp only [ent, sameKey_str, Bool.not_eq_true', beq_eq_false_iff_ne]; exact fun e => hne (data_inj e)), DataW.insert]
      simp only [hb, Bool.false_eq_true, if_false]
      rw [ih hc.2]
      rfl
    · have hl' : less r.1 s = false := by simpa using hl
      rw [if_neg hl, if_neg hd]
      have hins : ∀ q : List Rf, (∀ x ∈ q, less s x.1 = true) → DataW.insert (Lit.string s.data.toList, encD d) (q.map ent) = ((s, d) :: q).map ent := by
        intro q hq
        cases q with
        | nil => rfl
        | cons x q =>
          have hb : (Lit.string s.data.toList).before (ent x).1 = true := by
            show bytesBefore _ _ = true
            rw [before_less]; exact hq x (by simp)
          simp only [List.map_cons, DataW.insert, hb, if_true]
          rfl
      by_cases e : r.1 = s
      · rw [if_pos e, List.filter_cons_of_neg (by simp [ent, sameKey_str, e]), filter_notin l s (srt_ne h hl')]
        exact hins l (fun x hx => by have := hc.1 x hx; rwa [e] at this)
      · rw [if_neg e, List.filter_cons_of_pos (by simp only [ent, sameKey_str, Bool.not_eq_true', beq_eq_false_iff_ne]; exact fun e' => e (data_inj e')), filter_notin l s (srt_ne h hl')]
        have hsr : less s r.1 = true := by
          cases hx : less s r.1 with
          | true => rfl
          | false => exact absurd (data_inj (less_conn _ _ hl' hx)) e
        refine hins (r :: l) (fun x hx => ?_)
        rcases List.mem_cons.1 hx with rfl | hx
        · exact hsr
        · exact less_trans _ _ _ hsr (hc.1 x hx)
theorem getL_mem {l : List Rf} (h : Srt l) {r : Rf} (hr : r ∈ l) : getL l r.1 = r.2 := by
  induction l with
  | nil => cases hr
  | cons q l ih =>
    have hc := List.pairwise_cons.1 h
    rcases List.mem_cons.1 hr with rfl | hr
    · simp [getL]
    · have : q.1 ≠ r.1 := by
        intro e; have := hc.1 r hr; rw [e] at this; unfold less at this; rw [less_irrefl] at this; cases this
      simp [getL, this, ih hc.2 hr]
end Go.Proofs.YtikmiabncbhioaaDoor
