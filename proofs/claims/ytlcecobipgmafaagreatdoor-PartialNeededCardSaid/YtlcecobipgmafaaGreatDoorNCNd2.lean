/-
  Lemmas of the card.
-/
import Derived.ArgAppend
import Derived.Maps.RangeWalk
import Derived.OwnWalkIn
import Derived.Scope
import Derived.ControlIn
import Derived.Test.YtlcecobipgmafaaGreatDoorProg
import Derived.Sort.LoopGhostIn
import Derived.Maps.OwnIn
import Derived.StillTail
import Derived.WalkKit
import Derived.IntWalk
import Derived.Shelf.Strings.LastIndex
import Derived.Lib.LastIndexByte
import Derived.Deep.QuietTactic
import Derived.BigQuiet
import Derived.RangeFuncNested
import Derived.RangeFuncBound
import Derived.RangeFuncCalls
import Derived.RangeFuncLeaves
import Derived.RangeFuncFrom
import Derived.RangeFuncWrites
import Derived.Shelf.Abstract
import Derived.TacticsInMore
import Derived.LoopNIn
import Derived.LoopIn
import Derived.Lib.Builder
import Derived.Lib.AppendStr
import Derived.Lib.UnsafeStr
import Derived.Laws.Externs
import Derived.Test.YtlcecobipgmafaaGreatDoorNCNd1
set_option maxRecDepth 100000
set_option maxHeartbeats 4000000
namespace Go.Proofs.YtlcecobipgmafaaGreatDoor
open Go.RowKit
section
def ltD (a b : Dig) : Prop := a.1 < b.1 ∨ (a.1 = b.1 /\ a.2 < b.2)
instance (a b : Dig) : Decidable (ltD a b) := by unfold ltD; infer_instance
def bL (a b : Dig) : Int := if a = b then 0 else if ltD a b then -1 else 1
theorem dQ (a : Dig) : ¬ ltD a a := by unfold ltD; omega
theorem fo {a b c : Dig} (h : ltD a b) (h' : ltD b c) : ltD a c := by unfold ltD at *; omega
theorem xk {a b : Dig} (h : ltD a b) : a ≠ b := by rintro rfl; exact dQ a h
theorem lD {a b : Dig} (h : ¬ ltD a b) (h' : ¬ ltD b a) : a = b := by
 obtain ⟨a1, a2⟩ := a; obtain ⟨b1, b2⟩ := b; unfold ltD at *; simp only at *; rw [Prod.mk.injEq]; omega
theorem iR (a b : Dig) : bL a b < 0 ↔ ltD a b := by
 unfold bL; split
 . rename_i h; subst h; simp [dQ]
 . split <;> simp_all
theorem kS (a b : Dig) : bL a b = 0 ↔ a = b := by
 unfold bL; split
 . simp_all
 . split <;> simp_all
abbrev Itm := Dig × ByteArray
structure PlOk (p : List Itm) : Prop where
 enc : ∀ i ∈ p, ∃ o, OkO o /\ i.2 = ofL (aB o)
 dg : ∀ i ∈ p, i.1 = ofB (toL i.2)
 asc : p.Pairwise (fun a b => ltD a.1 b.1)
theorem PlOk.nil : PlOk [] := ⟨(fun i h => by cases h), (fun i h => by cases h), List.Pairwise.nil⟩
def atD (p : List Itm) (d : Dig) : Nat := p.countP (fun i => decide (ltD i.1 d))
def AscI (p : List Itm) : Prop := p.Pairwise (fun a b => ltD a.1 b.1)
theorem xC (p : List Itm) (d : Dig) : atD p d <= p.length := List.countP_le_length
theorem AscI.tail {i : Itm} {p : List Itm} (h : AscI (i :: p)) : AscI p := (List.pairwise_cons.1 h).2
theorem AscI.head {i j : Itm} {p : List Itm} (h : AscI (i :: p)) (hj : j ∈ p) : ltD i.1 j.1 := (List.pairwise_cons.1 h).1 j hj
theorem Dj {p : List Itm} {d : Dig} (h : ∀ i ∈ p, ¬ ltD i.1 d) : atD p d = 0 := by
 unfold atD; rw [List.countP_eq_zero]; intro i hi; simp [h i hi]
theorem ny {i : Itm} {p : List Itm} {d : Dig} (h : ltD i.1 d) : atD (i :: p) d = atD p d + 1 := by
 unfold atD; rw [List.countP_cons_of_pos (by simp [h])]
theorem rZ {i : Itm} {p : List Itm} {d : Dig} (ha : AscI (i :: p)) (h : ¬ ltD i.1 d) : atD (i :: p) d = 0 :=
 Dj (fun j hj => by
  rcases List.mem_cons.1 hj with rfl | hj
  . exact h
  . exact fun hl => h (fo (ha.head hj) hl))
theorem nV {p : List Itm} {d : Dig} (ha : AscI p) : ∀ {k : Nat} {i : Itm}, p[k]? = some i -> k < atD p d -> ltD i.1 d := by
 induction p with
 | nil => intro k i h; simp at h
 | cons j p ih =>
   intro k i h hk; by_cases hj : ltD j.1 d
   . rw [ny hj] at hk
     cases k with
     | zero => simp at h; subst h; exact hj
     | succ k => simp at h; exact ih ha.tail h (by omega)
   . rw [rZ ha hj] at hk; omega
theorem nM {p : List Itm} {d : Dig} (ha : AscI p) : ∀ {k : Nat} {i : Itm}, p[k]? = some i -> atD p d <= k -> ¬ ltD i.1 d := by
 induction p with
 | nil => intro k i h; simp at h
 | cons j p ih =>
   intro k i h hk; by_cases hj : ltD j.1 d
   . rw [ny hj] at hk
     cases k with
     | zero => omega
     | succ k => simp at h; exact ih ha.tail h (by omega)
   . cases k with
     | zero => simp at h; subst h; exact hj
     | succ k =>
       simp at h; exact fun hl => hj (fo (ha.head (List.mem_of_getElem? h)) hl)
def bD (p : List Itm) (d : Dig) : Option ByteArray := match p[atD p d]? with
 | some i => if i.1 = d then some i.2 else none
 | none => none
theorem AscI.uniq {p : List Itm} (ha : AscI p) {i j : Itm} (hi : i ∈ p) (hj : j ∈ p) (h : i.1 = j.1) : i = j := by
 induction p with
 | nil => cases hi
 | cons x p ih =>
   rcases List.mem_cons.1 hi with h1 | h1
   . rcases List.mem_cons.1 hj with h2 | h2
     . rw [h1, h2]
     . exact absurd h (xk (by rw [h1]; exact ha.head h2))
   . rcases List.mem_cons.1 hj with h2 | h2
     . exact absurd h.symm (xk (by rw [h2]; exact ha.head h1))
     . exact ih ha.tail h1 h2
theorem fZ {p : List Itm} (ha : AscI p) {d : Dig} {b : ByteArray} : bD p d = some b ↔ (d, b) ∈ p := by
 induction p with
 | nil => simp [bD]
 | cons x p ih =>
   by_cases hx : ltD x.1 d
   . have e : bD (x :: p) d = bD p d := by unfold bD; rw [ny hx]; simp
     rw [e, ih ha.tail, List.mem_cons]; exact ⟨.inr, fun h => h.resolve_left (fun h => by rw [<- h] at hx; exact dQ _ hx)⟩
   . unfold bD
     rw [rZ ha hx]; simp only [List.getElem?_cons_zero, List.mem_cons]; by_cases he : x.1 = d
     . rw [if_pos he]
       constructor
       . intro h; cases h; left; rw [<- he]
       . rintro (h | h)
         . rw [<- h]
         . have := ha.head h
           rw [he] at this; exact absurd this (dQ _)
     . rw [if_neg he]
       constructor
       . intro h; cases h
       . rintro (h | h)
         . rw [<- h] at he; exact absurd rfl he
         . exact absurd (ha.head h) hx
theorem jw {p : List Itm} (ha : AscI p) {d : Dig} : bD p d = none ↔ ∀ b, (d, b) ∉ p := by
 constructor
 . intro h b hb; rw [(fZ ha).2 hb] at h; cases h
 . intro h
   cases hf : bD p d with
   | none => rfl
   | some b => exact absurd ((fZ ha).1 hf) (h b)
def bE (p : List Itm) (x : Itm) : Option (List Itm) := match bD p x.1 with
 | some b => if b = x.2 then some p else none
 | none => some (p.take (atD p x.1) ++ [x] ++ p.drop (atD p x.1))
theorem bX {p q : List Itm} {x : Itm} (ha : AscI p) (h : bE p x = some q) (i : Itm) : i ∈ q ↔ i ∈ p ∨ i = x := by
 unfold bE at h; cases hf : bD p x.1 with
 | some b =>
   rw [hf] at h; simp only at h; split at h
   . rename_i e; cases h
     have := (fZ ha).1 hf; rw [e] at this; exact ⟨.inl, fun h => h.elim id (fun h => by rw [h]; exact this)⟩
   . cases h
 | none =>
   rw [hf] at h; cases h
   have e : i ∈ p ↔ i ∈ p.take (atD p x.1) ∨ i ∈ p.drop (atD p x.1) := by rw [<- List.mem_append, List.take_append_drop]
   rw [e]; simp only [List.mem_append, List.mem_singleton]; constructor
   . rintro ((h | h) | h)
     . exact .inl (.inl h)
     . exact .inr h
     . exact .inl (.inr h)
   . rintro ((h | h) | h)
     . exact .inl (.inl h)
     . exact .inr h
     . exact .inl (.inr h)
theorem lJ {p q : List Itm} {x : Itm} (ha : AscI p) (h : bE p x = some q) : AscI q := by
 unfold bE at h; cases hf : bD p x.1 with
 | some b =>
   rw [hf] at h; simp only at h; split at h
   . cases h; exact ha
   . cases h
 | none =>
   rw [hf] at h; cases h
   have hn := (jw ha).1 hf; have h1 : ∀ a ∈ p.take (atD p x.1), ltD a.1 x.1 := fun a hm => by
    obtain ⟨k, hk⟩ := List.mem_iff_getElem?.1 hm; have hl : k < atD p x.1 := by
     have := (List.getElem?_eq_some_iff.1 hk).1; rw [List.length_take] at this; omega
    rw [List.getElem?_take_of_lt hl] at hk; exact nV ha hk hl
   have h2 : ∀ b ∈ p.drop (atD p x.1), ltD x.1 b.1 := fun b hm => by
    obtain ⟨k, hk⟩ := List.mem_iff_getElem?.1 hm; rw [List.getElem?_drop] at hk; have := nM (d := x.1) ha hk (by omega); have hb : b ∈ p := List.mem_of_getElem? hk; by_cases hl : ltD x.1 b.1
    . exact hl
    . have e := lD hl this
      have h3 := hn b.2; rw [show (x.1, b.2) = b by rw [e]] at h3; exact absurd hb h3
   unfold AscI at ha ⊢; rw [<- List.take_append_drop (atD p x.1) p] at ha; rw [List.pairwise_append] at ha; rw [List.append_assoc, List.pairwise_append]; refine ⟨ha.1, ?_, ?_⟩
   . rw [List.singleton_append, List.pairwise_cons]
     exact ⟨h2, ha.2.1⟩
   . intro a hm b hb
     rw [List.singleton_append, List.mem_cons] at hb; rcases hb with rfl | hb
     . exact h1 a hm
     . exact fo (h1 a hm) (h2 b hb)
theorem Cs {p q : List Itm} {x : Itm} (h : bE p x = some q) : q.length <= p.length + 1 := by
 unfold bE at h; split at h
 . split at h
   . cases h; omega
   . cases h
 . cases h; simp; omega
theorem AscI.ext {p q : List Itm} (hp : AscI p) (hq : AscI q) (h : ∀ i, i ∈ p ↔ i ∈ q) : p = q := by
 induction p generalizing q with
 | nil =>
   cases q with
   | nil => rfl
   | cons y q => exact absurd ((h y).2 (by simp)) (by simp)
 | cons x p ih =>
   cases q with
   | nil => exact absurd ((h x).1 (by simp)) (by simp)
   | cons y q =>
     have e : x = y := by
      have h1 := (h x).1 (by simp); have h2 := (h y).2 (by simp); rcases List.mem_cons.1 h1 with e | h1
      . exact e
      rcases List.mem_cons.1 h2 with e | h2
      . exact e.symm
      exact absurd (fo (hq.head h1) (hp.head h2)) (dQ _)
     subst e; rw [ih hp.tail hq.tail]; intro i; constructor
     . intro hi
       rcases List.mem_cons.1 ((h i).1 (List.mem_cons_of_mem _ hi)) with rfl | h'
       . exact absurd (hp.head hi) (dQ _)
       . exact h'
     . intro hi
       rcases List.mem_cons.1 ((h i).2 (List.mem_cons_of_mem _ hi)) with rfl | h'
       . exact absurd (hq.head hi) (dQ _)
       . exact h'
theorem PlOk.ins {p q : List Itm} {o : Ob} (h : PlOk p) (ho : OkO o) (hi : bE p (ofB (aB o), ofL (aB o)) = some q) : PlOk q :=
 ⟨fun i hm => ((bX h.asc hi i).1 hm).elim (h.enc i) (fun e => ⟨o, ho, by rw [e]⟩),
  fun i hm => ((bX h.asc hi i).1 hm).elim (h.dg i) (fun e => by rw [e]; simp only; rw [eD]),
  lJ h.asc hi⟩
open Classical in
noncomputable def fw (s : ByteArray) : Ob := if h : ∃ o, OkO o /\ s = ofL (aB o) then h.choose else ⟨0, ⟨#[]⟩, [], zD, [], ⟨#[]⟩, 0, ⟨#[]⟩⟩
theorem fq {o : Ob} (ho : OkO o) : fw (ofL (aB o)) = o := by
 have h : ∃ o', OkO o' /\ ofL (aB o) = ofL (aB o') := ⟨o, ho, rfl⟩
 unfold fw; rw [dif_pos h]; have hs := h.choose_spec; have : aB o = aB h.choose := by have := congrArg toL hs.2; rwa [eD, eD] at this
 exact (Cj this ho.f hs.1.f).symm
noncomputable def ay (p : List Itm) (d : Dig) : Option Ob := (bD p d).map fw
theorem dR {p : List Itm} (h : PlOk p) {d : Dig} {o : Ob} : ay p d = some o ↔ OkO o /\ (d, ofL (aB o)) ∈ p := by
 unfold ay; rw [Option.map_eq_some_iff]; constructor
 . rintro ⟨b, hb, rfl⟩
   have hm := (fZ h.asc).1 hb; obtain ⟨o, ho, e⟩ := h.enc _ hm; simp only at e; rw [e, fq ho]; rw [e] at hm; exact ⟨ho, hm⟩
 . rintro ⟨ho, hm⟩
   exact ⟨_, (fZ h.asc).2 hm, fq ho⟩
theorem mh {p : List Itm} (h : PlOk p) {d : Dig} {o : Ob} (hg : ay p d = some o) : OkO o := ((dR h).1 hg).1
theorem getP_none {p : List Itm} {d : Dig} : ay p d = none ↔ bD p d = none := by
 unfold ay; rw [Option.map_eq_none_iff]
def bB (p : List Itm) (o : Ob) : Option (List Itm) := bE p (ofB (aB o), ofL (aB o))
def dgO (o : Ob) : Dig := ofB (aB o)
theorem gB {p q : List Itm} {o : Ob} (h : PlOk p) (ho : OkO o) (hi : bB p o = some q) : PlOk q := h.ins ho hi
theorem uV {p q : List Itm} {o : Ob} (h : PlOk p) (ho : OkO o) (hi : bB p o = some q) : ay q (dgO o) = some o :=
 (dR (gB h ho hi)).2 ⟨ho, (bX h.asc hi _).2 (.inr rfl)⟩
def subP (p q : List Itm) : Prop := ∀ i ∈ p, i ∈ q
theorem subP.refl (p : List Itm) : subP p p := fun _ h => h
theorem subP.trans {p q r : List Itm} (h : subP p q) (k : subP q r) : subP p r := fun i hi => k i (h i hi)
theorem lu {p q : List Itm} {o : Ob} (h : PlOk p) (hi : bB p o = some q) : subP p q := fun i hm => (bX h.asc hi i).2 (.inl hm)
theorem kU {p q : List Itm} (hp : PlOk p) (hq : PlOk q) (hs : subP p q) {d : Dig} {o : Ob} (h : ay p d = some o) : ay q d = some o :=
 (dR hq).2 ⟨((dR hp).1 h).1, hs _ ((dR hp).1 h).2⟩
theorem wR {p : List Itm} (h : PlOk p) {d : Dig} {o : Ob} (hg : ay p d = some o) : d = dgO o := by
 have := h.dg _ ((dR h).1 hg).2; simp only at this; rw [eD] at this; exact this
end
def slB : ByteArray := ⟨#[47]⟩
noncomputable def vsE (g : Dig -> ByteArray -> List Fl × Int) (p : List Itm) (pre : ByteArray) : List Ent -> List Fl × Int
 | [] => ([], 0)
 | e :: r =>
   if 100 < (pre ++ e.nm).size then ([], 4)
   else if e.dir = true then
    (let s := g e.dg (pre ++ e.nm ++ slB); if s.2 = 0 then (s.1 ++ (vsE g p pre r).1, (vsE g p pre r).2) else s)
   else match ay p e.dg with
    | none => ([], 8)
    | some o => if o.kind = 1 then ((pre ++ e.nm, o.data) :: (vsE g p pre r).1, (vsE g p pre r).2) else ([], 9)
noncomputable def vis (p : List Itm) : Nat -> Dig -> ByteArray -> List Fl × Int
 | 0, _, _ => ([], 4)
 | n + 1, d, pre => match ay p d with
   | none => ([], 8)
   | some o => if o.kind = 2 then (if o.ents = [] /\ pre ≠ ⟨#[]⟩ then ([], 1) else vsE (vis p n) p pre o.ents) else ([], 9)
theorem EL {α : Type} {l : List α} {j : Nat} {x : α} (h : l[j]? = some x) : l.drop j = x :: l.drop (j + 1) := by
 obtain ⟨hl, rfl⟩ := List.getElem?_eq_some_iff.1 h; exact List.drop_eq_getElem_cons hl
def AscF (l : List Fl) : Prop := l.Pairwise (fun a b => less a.1 b.1 = true)
theorem AscF.tail {f : Fl} {l : List Fl} (h : AscF (f :: l)) : AscF l := (List.pairwise_cons.1 h).2
theorem AscF.head {f g : Fl} {l : List Fl} (h : AscF (f :: l)) (hg : g ∈ l) : less f.1 g.1 = true := (List.pairwise_cons.1 h).1 g hg
theorem AscF.ext {l m : List Fl} (hl : AscF l) (hm : AscF m) (h : ∀ f, f ∈ l ↔ f ∈ m) : l = m := by
 induction l generalizing m with
 | nil =>
   cases m with
   | nil => rfl
   | cons y q => exact absurd ((h y).2 (by simp)) (by simp)
 | cons x p ih =>
   cases m with
   | nil => exact absurd ((h x).1 (by simp)) (by simp)
   | cons y q =>
     have e : x = y := by
      have h1 := (h x).1 (by simp); have h2 := (h y).2 (by simp); rcases List.mem_cons.1 h1 with e | h1
      . exact e
      rcases List.mem_cons.1 h2 with e | h2
      . exact e.symm
      exact absurd (iy (hm.head h1) (hl.head h2)) (by rw [eG]; simp)
     subst e; rw [ih hl.tail hm.tail]; intro i; constructor
     . intro hi
       rcases List.mem_cons.1 ((h i).1 (List.mem_cons_of_mem _ hi)) with rfl | h'
       . exact absurd (hl.head hi) (by rw [eG]; simp)
       . exact h'
     . intro hi
       rcases List.mem_cons.1 ((h i).2 (List.mem_cons_of_mem _ hi)) with rfl | h'
       . exact absurd (hm.head hi) (by rw [eG]; simp)
       . exact h'
theorem xJ {a b : ByteArray} (h : bl a = bl b) : a = b := by rw [<- jV a, <- jV b, h]
def yn (s : ByteArray) : Prop := ∀ c ∈ bl s, c ≠ 47
theorem oP {s : ByteArray} (h : aT s = true) : 1 <= s.size /\ s.size <= 24 := by
 unfold aT dz at h; simp only [Bool.and_eq_true, decide_eq_true_eq] at h; rw [eH]; exact ⟨h.1, h.2.1⟩
section
open Go.RowKit Go.Shelf
def bC : List UInt8 -> Nat
 | [] => 0
 | c :: r => if c = 47 then 0 else bC r + 1
theorem nW : ∀ {l : List UInt8} {k : Nat}, (∀ j, j < k -> l[j]? ≠ some 47) -> k <= l.length -> (k = l.length ∨ l[k]? = some 47) -> bC l = k
 | [], k, _, h, _ => by simp at h; simp [bC, h]
 | c :: r, 0, _, _, h3 => by
   rcases h3 with h3 | h3
   . simp at h3
   . simp at h3; simp [bC, h3]
 | c :: r, k + 1, h1, h2, h3 => by
   have hc : c ≠ 47 := fun e => h1 0 (by omega) (by simp [e]); simp only [bC, if_neg hc]; rw [nW (k := k) (fun j hj => by have := h1 (j + 1) (by omega); simpa using this) (by simp at h2; omega) (by
    rcases h3 with h3 | h3
    . left; simp at h3; omega
    . right; simpa using h3)]
theorem rV : ∀ (l : List UInt8), aV l = if bC l < l.length then l.take (bC l) :: aV (l.drop (bC l + 1)) else [l]
 | [] => rfl
 | c :: r => by
   by_cases hc : c = 47
   . subst hc; simp [aV, bC]
   . have ih := rV r
     simp only [aV, bC, if_neg hc]; rw [ih]; by_cases h : bC r < r.length
     . rw [if_pos h, if_pos (by simp; exact h)]; simp
     . rw [if_neg h, if_neg (by simp; omega)]
end
section
open Go.RowKit Go.Shelf
attribute [local go_sem] Oper.semAt_some
def cZ (s : ByteArray) : Bool := decide ((bl s).length <= 100) && (aV (bl s)).all dz
theorem nJ {w : World} {a : Array Value} {r : Nat} {x : Bool} (ha : a[2]?.getD undef = .pointer (some ⟨r, 0, none⟩)) (h : w.heap[r]? = some (.cells #[.bool x] 4 (0, 0))) :
  (results Tryz.f104 a).run Tryz.prog w = .ok (.bool x) w := by
 have hc := cell_of_one h; simp [results, Tryz.results104, ha, go_sem, hc]
theorem AQ (s : ByteArray) (w : World) (hs : s.size <= maxLen) :
  Calls Tryz.prog 104 #[.string s] w fun e w' => e = .returned (.bool (cZ s)) /\ Below w.heap.size w w' := by
 refine (callsIn_wide (n := 6)).1 ?_; unfold maxLen at hs; have HL := ah (eH s); have hf65 : Fence.wide.fn 132 := trivial; have hf66 : Fence.wide.fn 133 := trivial; refine callsIn_of_wp_marks Tryz.func104 rfl trivial ?_ rfl; simp only [Tryz.ntmps104, List.size_toArray, List.length_cons, List.length_nil, Nat.reduceAdd, Nat.reduceSub, Array.replicate_succ, Array.replicate_zero, List.push_toArray, List.append_toArray, List.nil_append, List.cons_append]; by_cases c1 : 100 < (s.size : Int)
 . have hv : Hid (cZ s = false) := by
     show _ = _; have := HL.out; unfold cZ bl; rw [decide_eq_false (by omega), Bool.false_and]
   gi_wp2_with fail
   refine ⟨_, nJ rfl (World.alloc_heap_new w _), ?_⟩; exact ⟨aZ hv.out.symm, (Below.refl _ _).alloc ai _⟩
 have c1' : (s.size : Int) <= 100 := by omega
 have HN : Hid (cZ s = (aV (bl s)).all dz) := by
  show _ = _; have := HL.out; unfold cZ; rw [decide_eq_true (by unfold bl; omega), Bool.true_and]
 gi_wp2_with (gi_at_call 132; refine (callsIn_wide.2 (zB _ _)).mono ?_; rintro e w' ⟨rfl, rfl⟩)
 obtain ⟨W0, hW0⟩ : ∃ W0, (((w.alloc (.cells #[.bool false] 4)).alloc (.cells #[.string s] 9)).alloc (.cells #[.string ⟨#[47]⟩] 9)).alloc (.cells #[.int .i64 0] 3) = W0 := ⟨_, rfl⟩
 have hz : W0.heap.size = w.heap.size + 4 := by rw [<- hW0]; simp
 have g0 : W0.heap[w.heap.size]? = some (.cells #[.bool false] 4 (0, 0)) := by
  rw [<- hW0]; exact (Below.heap_alloc _ _ _ (by simp; omega)).trans ((Below.heap_alloc _ _ _ (by simp; omega)).trans ((Below.heap_alloc _ _ _ (by simp)).trans (World.alloc_heap_new w _)))
 have g1 : W0.heap[w.heap.size + 1]? = some (.cells #[.string s] 9 (0, 0)) := by
  rw [<- hW0]; refine (Below.heap_alloc _ _ _ (by simp)).trans ((Below.heap_alloc _ _ _ (by simp)).trans ?_); have := World.alloc_heap_new (w.alloc (.cells #[.bool false] 4)) (.cells #[.string s] 9); rwa [World.size_alloc] at this
 have g2 : W0.heap[w.heap.size + 1 + 1]? = some (.cells #[.string ⟨#[47]⟩] 9 (0, 0)) := by
  rw [<- hW0]; refine (Below.heap_alloc _ _ _ (by simp)).trans ?_; have := World.alloc_heap_new ((w.alloc (.cells #[.bool false] 4)).alloc (.cells #[.string s] 9)) (.cells #[.string ⟨#[47]⟩] 9); rwa [World.size_alloc, World.size_alloc] at this
 have g3 : W0.heap[w.heap.size + 1 + 2]? = some (.cells #[.int .i64 0] 3 (0, 0)) := by
  rw [<- hW0]; have := World.alloc_heap_new (((w.alloc (.cells #[.bool false] 4)).alloc (.cells #[.string s] 9)).alloc (.cells #[.string ⟨#[47]⟩] 9)) (.cells #[.int .i64 0] 3); rwa [World.size_alloc, World.size_alloc, World.size_alloc] at this
 have hb0 : Below w.heap.size w W0 := by
  rw [<- hW0]; exact ((((Below.refl _ w).alloc ai _).alloc (by simp) _).alloc (by simp; omega) _).alloc (by simp; omega) _
 rw [hW0]; refine si (F := Fence.wide) (n := 6) rfl (by omega) (gf := 169) (lb := #[.pointer (some ⟨w.heap.size + 1 + 1, 0, none⟩), .pointer (some ⟨w.heap.size + 1, 0, none⟩), .pointer (some ⟨w.heap.size + 1 + 2, 0, none⟩)]) rfl trivial (enters_of Tryz.func169 (by kernel_rfl) rfl)
  (Bz 5 (w.heap.size + 1) (by omega) s W0 (by omega) (by omega) g1 g2 g3) DJ (fun W l o hl => BO (m := w.heap.size + 4) (by omega) W l o (by omega)) (Au) (Below.refl _ _) (fun _ => rfl)
  (fun pre W => W.heap[w.heap.size]? = some (.cells #[.bool false] 4 (0, 0)) /\ Hid (∀ x ∈ pre, aT x = true) /\ Below w.heap.size w W /\ w.heap.size + 4 <= W.heap.size)
  (fun c pre W => c = .ret /\ W.heap[w.heap.size]? = some (.cells #[.bool false] 4 (0, 0)) /\ Hid (∃ x ∈ pre, aT x = false) /\ Below w.heap.size w W)
  ?hI ?hIx ?hIS ⟨g0, by simp [Hid], hb0, by omega⟩ ?a1 ?assign ?body ?done ?stop
 case assign =>
  intro l x W K hK; have HKK := ah hK; clear hK
  gi_wp2
  exact HKK.out
 case hI =>
  rintro pre A B row ⟨h1, h2, h3, h4⟩ hg hr; refine ⟨sW h1 hg (fun e => ?_), h2, h3.grown hg h3.size (fun k e => ?_), Nat.le_trans h4 hg.size⟩
  . have := (hr _ e.symm).1; omega
  . have := (hr _ e).1; omega
 case hIx =>
  rintro c pre A B row ⟨h0, h1, h2, h3⟩ hg hr; refine ⟨h0, sW h1 hg (fun e => ?_), h2, h3.grown hg h3.size (fun k e => ?_)⟩
  . have := (hr _ e.symm).1; omega
  . have := (hr _ e).1; omega
 case hIS =>
  rintro pre A B ⟨h1, h2, h3, h4⟩ ⟨v, rfl⟩; exact ⟨(Below.heap_setCell _ _ _ _ (by simp)).trans h1, h2, h3.setCell (p := ⟨w.heap.size + 1, 0, none⟩) (by simp) _, by simpa [World.setCell] using h4⟩
 case body =>
  rintro l pre x W ⟨r, hr⟩ ⟨h1, h2, h3, h4⟩; have hxs : x.size <= maxLen := by
   have hm : bl x ∈ aV (bl s) := by rw [<- hr]; simp
   have h5 := kI (bl s) _ hm; have h6 := eH x; have h7 := HL.out; unfold bl at h5; unfold maxLen; omega
  have c0 := cell_of_one h1; have f0 := free_of_one h1; have H1 := ah h1; have H3 := ah h3; clear h1 h3 g0 g1 g2 g3 hb0 hW0 hr; cases hv : aT x with
  | true =>
    have HV := ah hv; clear hv
    gi_wp2_with (gi_at_call 133; refine (CallsIn.inRound l (callsIn_wide.2 (kR x _ hxs))).mono ?_; rintro e w' ⟨rfl, rfl⟩; rw [HV.out])
    refine ⟨⟨Nat.le_refl _, fun k o hk _ => hk⟩, fun k h5 h6 => rfl, H1.out, ?_, H3.out, h4⟩; intro y hy; rcases List.mem_append.1 hy with h | h
    . exact h2.out y h
    . simp at h; subst h; exact HV.out
  | false =>
    have HV := ah hv; clear hv
    gi_wp2_with (gi_at_call 133; refine (CallsIn.inRound l (callsIn_wide.2 (kR x _ hxs))).mono ?_; rintro e w' ⟨rfl, rfl⟩; rw [HV.out])
    exact ⟨KeepsOthers.setCell _ _ _, rfl, one_setCell H1.out, ⟨x, by simp, HV.out⟩, H3.out.setCell (p := ⟨w.heap.size, 0, none⟩) ai _⟩
 case done =>
  rintro D xs W hD hS ⟨h1, h2, h3, h4⟩ hK; have c0 := cell_of_one h1; have f0 := free_of_one h1; have H1 := ah h1; have H3 := ah h3; have HK := ah hK; have HS := ah hS; clear h1 h3 hK hS
  gi_wp2
  have hK2 := (KeepsOthers.setCell W ⟨w.heap.size, 0, none⟩ (.bool true)).same D _ HK.out rfl; refine ⟨by simp, .inl ⟨_, _, rfl, run_takeDeferred hK2, ?_⟩⟩; refine ⟨_, nJ rfl ((World.putObj_heap_other (by omega)).trans (one_setCell H1.out)), aZ ?_, ?_⟩
  . rw [HN.out]
    symm
    rw [List.all_eq_true]; intro y hy; have hy' : y ∈ xs.map bl := by rw [HS.out]; exact hy
    obtain ⟨x, hx, rfl⟩ := List.mem_map.1 hy'; exact h2.out x hx
  . exact (H3.out.setCell (p := ⟨w.heap.size, 0, none⟩) ai _).grown (grownBy_putObj' _ _ _) ((H3.out.setCell (p := ⟨w.heap.size, 0, none⟩) ai _).size) (fun k e => by cases e; omega)
 case stop =>
  rintro D c pre W hD hS ⟨rfl, h1, h2, h3⟩ hK; have H1 := ah h1; have H3 := ah h3; have HK := ah hK; have HS := ah hS; clear h1 h3 hK hS
  gi_wp2
  refine ⟨by simp, .inl ⟨_, _, rfl, run_takeDeferred HK.out, ?_⟩⟩; refine ⟨_, nJ rfl ((World.putObj_heap_other (by omega)).trans H1.out), aZ ?_, ?_⟩
  . rw [HN.out]
    symm
    rw [List.all_eq_false]; obtain ⟨x, hx, hxv⟩ := h2.out; obtain ⟨r, hr⟩ := HS.out; refine ⟨bl x, ?_, by simpa [aT] using hxv⟩; rw [<- hr]; exact List.mem_append.2 (.inl (List.mem_map.2 ⟨x, hx, rfl⟩))
  . exact H3.out.grown (grownBy_putObj' _ _ _) H3.out.size (fun k e => by cases e; omega)
end
def Apd (w : World) (base : Nat) (e : TypeId) (size : Nat) (A : OA) (n c : Nat) (xs : List Value) : Prop :=
 w.ownsRow base e size (.slice A n c) n xs ∨ (n = 0 /\ c = 0 /\ xs = [])
section
variable {P : Program} {w w' : World} {base size n c : Nat} {e : TypeId} {A : OA} {xs : List Value}
theorem Apd.sl (h : Apd w base e size A n c xs) : Sl w w.heap.size size A n xs := by
 rcases h with h | ⟨rfl, rfl, rfl⟩
 . exact Sl.of_own h
 . exact Sl.nil _ _ _ _
theorem Apd.below (h : Apd w base e size A n c xs) (hb : Below w.heap.size w w') : Apd w' base e size A n c xs := by
 rcases h with h | h
 . exact .inl (h.kept (row := none) ⟨hb.os, hb.tape, hb.output, hb.size, fun k hk _ => hb.block k hk⟩ (by
     cases hv : (Value.slice A n c).ownBlock with
     | none => exact .inl rfl
     | some k => exact .inr (by simp)))
 . exact .inr h
theorem Apd.setCell (h : Apd w base e size A n c xs) {a : Addr} (ha : a.block < base) (u : Value) : Apd (w.setCell a u) base e size A n c xs := by
 rcases h with h | h
 . exact .inl (ownsRow_setCell_below h ha u)
 . exact .inr h
theorem zh (hg : w.grownBy w' none) : Below w.heap.size w w' := ⟨hg.os, hg.tape, hg.output, hg.size, fun k hk => hg.block k hk (by simp)⟩
theorem ku (t ty : TypeId) (i : TypeInfo) (z : Value) (bytes : Nat) (ht : P.underlying t = some (.slice e)) (hi : P.info? e = some i) (hz : i.zero = some z)
  (hsize : i.size = size) (hby : i.bytes = bytes) (hzs : z.cells.size = size) (hsz : 0 < size)
  {B : Nat} {A' : OA} {m c' : Nat} {ys : List Value} (hsl : Sl w B size A' m ys) (h1 : ∀ u ∈ ys, u.oneCell' = true)
  (h63 : m <= maxLen) (hbytes : m * bytes <= 140737488355328) (hbase : base <= w.heap.size) (A : OA) :
  ∃ A2 c2 w', (Builtin.append_ #[t, t] ty #[.slice A 0 0, .slice A' m c']).run P w = .ok (.slice A2 m c2) w' /\ Apd w' base e size A2 m c2 ys /\ Below w.heap.size w w' /\ m <= c2 /\ c2 <= maxLen := by
 rcases Nat.eq_zero_or_pos m with h | hm
 . subst h
   have hy : ys = [] := by
    have := hsl.1; rw [Nat.zero_mul] at this; exact List.length_eq_zero_iff.1 this
   subst hy; refine ⟨A, 0, w, ?_, .inr ⟨rfl, rfl, rfl⟩, Below.refl _ _, Nat.le_refl _, Nat.zero_le _⟩; cases A <;> cases A' <;> simp [Builtin.append_, run_underlying ht, sizeOf, typeInfo, hi, Builtin.lenOf, Builtin.firstCells, loadCells, loadCellsFrom, storeCells]
 . -- as onto nil
   have hrun : (Builtin.append_ #[t, t] ty #[.slice A 0 0, .slice A' m c']).run P w = (Builtin.append_ #[t, t] ty #[.slice none 0 0, .slice A' m c']).run P w := by
    obtain ⟨b, off, rfl, _, _⟩ := hsl.2 hm; cases A with
    | none => rfl
    | some ad =>
      have hroom : ¬ m = 0 := by omega
      have hfit : ¬ 281474976710656 < Builtin.nextslicecap m 0 * i.bytes := by
       have := growslice_fits (old := 0) (need := m) (bytes := bytes) (by omega) hbytes; rw [hby]; omega
      simp [Builtin.append_, run_underlying ht, sizeOf, typeInfo, hi, Builtin.lenOf, Builtin.firstCells, loadCells, loadCellsFrom, hroom, hfit]
   obtain ⟨A2, c2, w2, hr, ho, hg, hc1, hc2⟩ := kz (P := P) (base := base) (v := .slice none 0 0) (n := 0) (xs := []) t ty i z bytes ht hi hz hsize hby hzs hsz (World.ownsRow_nil w base e size) (c := c') hsl h1 (by omega) (by rw [Nat.zero_add]; exact hbytes) hbase; simp only [Nat.zero_add, List.nil_append] at hr ho hc1; exact ⟨A2, c2, w2, hrun.trans hr, .inl ho, zh hg, hc1, hc2⟩
def OthersKept (e : TypeId) (w w' : World) : Prop := ∀ (base size n : Nat) (e' : TypeId) (v : Value) (xs : List Value), e' ≠ e -> w.ownsRow base e' size v n xs -> w'.ownsRow base e' size v n xs
theorem rC (t ty : TypeId) (i : TypeInfo) (z : Value) (bytes : Nat) (ht : P.underlying t = some (.slice e)) (hi : P.info? e = some i) (hz : i.zero = some z)
  (hsize : i.size = size) (hby : i.bytes = bytes) (hzs : z.cells.size = size) (hsz : 0 < size) (ha : Apd w base e size A n c xs)
  {B : Nat} {A' : OA} {m c' : Nat} {ys : List Value} (hsl : Sl w B size A' m ys) (h1 : ∀ u ∈ ys, u.oneCell' = true)
  (h63 : n + m <= maxLen) (hbytes : (n + m) * bytes <= 140737488355328) (hbase : base <= w.heap.size) :
  ∃ A2 c2 w', (Builtin.append_ #[t, t] ty #[.slice A n c, .slice A' m c']).run P w = .ok (.slice A2 (n + m) c2) w' /\ Apd w' base e size A2 (n + m) c2 (xs ++ ys) /\ Below base w w' /\ n + m <= c2 /\ c2 <= maxLen /\ OthersKept e w w' := by
 rcases ha with h | ⟨rfl, rfl, rfl⟩
 . obtain ⟨A2, c2, w2, hr, ho, hg, hc1, hc2⟩ := kz (P := P) t ty i z bytes ht hi hz hsize hby hzs hsz h (c := c') hsl h1 h63 hbytes hbase
   exact ⟨A2, c2, w2, hr, .inl ho, (Below.refl _ w).grown hg hbase (fun k hk => rX h k hk), hc1, hc2, fun _ _ _ _ _ _ hne h' => h'.kept hg (zu h h' hne)⟩
 . obtain ⟨A2, c2, w2, hr, ho, hg, hc1, hc2⟩ := ku (P := P) (base := base) t ty i z bytes ht hi hz hsize hby hzs hsz (c' := c') hsl h1 (by omega) (by rw [Nat.zero_add] at hbytes; exact hbytes) hbase A
   rw [Nat.zero_add, List.nil_append]; exact ⟨A2, c2, w2, hr, ho, hg.mono hbase, hc1, hc2, fun _ _ _ _ v _ _ h' => h'.kept (row := none) ⟨hg.os, hg.tape, hg.output, hg.size, fun k hk _ => hg.block k hk⟩ (by cases hv : v.ownBlock with | none => exact .inl rfl | some k => exact .inr (by simp))⟩
theorem dJ (w : World) {ops : Array Oper} {rest : List Oper} {o : Oper} {a : Act} {Q : Exit -> Act -> World -> Prop} (hgd : o.guard = none) (s x : Operand) (t : TypeId)
  (ho : o.op = .call { callee := .builtin .append, args := #[s, x], argTypes := #[t, t] })
  (e : TypeId) (i : TypeInfo) (z : Value) (bytes : Nat) (ht : P.underlying t = some (.slice e)) (hi : P.info? e = some i) (hz : i.zero = some z)
  (hsize : i.size = size) (hby : i.bytes = bytes) (hzs : z.cells.size = size) (hsz : 0 < size)
  (A : OA) (n c : Nat) (xs : List Value) (hs : a.eval s = .slice A n c) (hown : Apd w base e size A n c xs)
  (B : Nat) (A' : OA) (m c' : Nat) (ys : List Value) (hx : a.eval x = .slice A' m c') (hsl : Sl w B size A' m ys) (h1 : ∀ u ∈ ys, u.oneCell' = true)
  (h63 : n + m <= maxLen) (hbytes : (n + m) * bytes <= 140737488355328) (hbase : base <= w.heap.size)
  (h : ∀ A2 c2 w', Apd w' base e size A2 (n + m) c2 (xs ++ ys) -> Below base w w' -> n + m <= c2 -> c2 <= maxLen -> OthersKept e w w' -> wpList P ops Q rest (a.put o.dst (.slice A2 (n + m) c2)) w') : wpList P ops Q (o :: rest) a w := by
 refine wpList_plain hgd fun K hK => ?_; obtain ⟨A2, c2, w', hr, ho', hg, hc1, hc2, hok⟩ := rC (P := P) t o.type i z bytes ht hi hz hsize hby hzs hsz hown (c' := c') hsl h1 h63 hbytes hbase; unfold Oper.wp; simp [execOp, ho, resolve, invoke, builtin, hs, hx, hr, Result.andThen]; exact hK _ _ (h A2 c2 w' ho' hg hc1 hc2 hok)
end
def Que (w : World) (base : Nat) (e : TypeId) (size : Nat) (A : OA) (n c : Nat) (xs : List Value) : Prop :=
 xs.length = n * size /\ ((n = 0 /\ c = 0) ∨ ∃ g off cur, A = some ⟨g, off, none⟩ /\ base <= g /\ w.heap[g]? = some (.cells cur e (0, 0)) /\ n <= c /\ c <= maxLen /\ cur.size = off + c * size /\ (cur.toList.drop off).take (n * size) = xs)
section
variable {P : Program} {w w' : World} {base size n c : Nat} {e : TypeId} {A : OA} {xs : List Value}
theorem Que.of_own (h : w.ownsRow base e size (.slice A n c) n xs) : Que w base e size A n c xs := by
 refine ⟨h.1, ?_⟩; rcases h.2 with ⟨hv, h0⟩ | ⟨g, cap, cur, hv, h1, h2, h3, h4, h5, h6⟩
 . simp at hv; exact .inl ⟨h0, hv.2.2⟩
 . simp at hv
   obtain ⟨rfl, rfl⟩ := hv; exact .inr ⟨g, 0, cur, rfl, h1, h2, h3, h4, by omega, by simpa using h6⟩
theorem Que.more {base' : Nat} (h : Que w base e size A n c xs) (hb : base' <= base) : Que w base' e size A n c xs := by
 obtain ⟨h0, h | ⟨g, off, cur, h1, h2, h3⟩⟩ := h
 . exact ⟨h0, .inl h⟩
 . exact ⟨h0, .inr ⟨g, off, cur, h1, by omega, h3⟩⟩
theorem Que.le (h : Que w base e size A n c xs) : n <= c /\ c <= maxLen := by
 obtain ⟨h0, ⟨rfl, rfl⟩ | ⟨g, off, cur, h1, h2, h3, h4, h5, _⟩⟩ := h
 . exact ⟨Nat.le_refl _, Nat.zero_le _⟩
 . exact ⟨h4, h5⟩
theorem Que.keep (h : Que w base e size A n c xs) (hk : ∀ (g : Nat) (cur : Array Value), w.heap[g]? = some (Obj.cells cur e (0, 0)) -> w'.heap[g]? = w.heap[g]?) : Que w' base e size A n c xs := by
 obtain ⟨h0, h | ⟨g, off, cur, h1, h2, h3, h4⟩⟩ := h
 . exact ⟨h0, .inl h⟩
 . exact ⟨h0, .inr ⟨g, off, cur, h1, h2, (hk g cur h3).trans h3, h4⟩⟩
theorem Que.sl (h : Que w base e size A n c xs) : Sl w w.heap.size size A n xs := by
 obtain ⟨h0, ⟨rfl, rfl⟩ | ⟨g, off, cur, h1, h2, h3, h4, h5, h6, h7⟩⟩ := h
 . exact ⟨h0, fun h => absurd h (by omega)⟩
 . refine ⟨h0, fun _ => ⟨g, off, h1, (Array.getElem?_eq_some_iff.1 h3).1, fun j u hu => ?_⟩⟩
   rw [<- h7, List.getElem?_take] at hu; split at hu
   . rw [List.getElem?_drop] at hu
     simp [World.cell?, h3]
     simpa using hu
   . cases hu
theorem Que.tail {g off : Nat} (h : Que w base e size (some ⟨g, off, none⟩) (n + 1) c xs) : Que w base e size (some ⟨g, off + size, none⟩) n (c - 1) (xs.drop size) := by
 obtain ⟨h0, ⟨h1, _⟩ | ⟨g', off', cur, h1, h2, h3, h4, h5, h6, h7⟩⟩ := h
 . omega
 . simp at h1
   obtain ⟨rfl, rfl⟩ := h1; have hc : c * size = (c - 1) * size + size := by
    have : c = (c - 1) + 1 := by omega
    rw [this, Nat.add_mul]; simp
   have hn : (n + 1) * size = n * size + size := by rw [Nat.add_mul]; simp
   refine ⟨by rw [List.length_drop, h0, hn]; omega, .inr ⟨g, off + size, cur, rfl, h2, h3, by omega, by omega, by omega, ?_⟩⟩; rw [<- h7, hn, List.drop_take, List.drop_drop]
   congr 1
   omega
theorem rA (t ty : TypeId) (i : TypeInfo) (z : Value) (bytes : Nat) (ht : P.underlying t = some (.slice e)) (hi : P.info? e = some i) (hz : i.zero = some z)
  (hsize : i.size = size) (hby : i.bytes = bytes) (hzs : z.cells.size = size) (hsz : 0 < size) (ha : Que w base e size A n c xs)
  {B : Nat} {A' : OA} {m c' : Nat} {ys : List Value} (hsl : Sl w B size A' m ys) (h1 : ∀ u ∈ ys, u.oneCell' = true) (hm : 0 < m)
  (h63 : n + m <= maxLen) (hbytes : (n + m) * bytes <= 140737488355328) (hbase : base <= w.heap.size) :
  ∃ A2 c2 w' row, (Builtin.append_ #[t, t] ty #[.slice A n c, .slice A' m c']).run P w = .ok (.slice A2 (n + m) c2) w' /\ Que w' base e size A2 (n + m) c2 (xs ++ ys) /\ w.grownBy w' row /\ (∀ g, row = some g -> base <= g /\ (∃ cur, w.heap[g]? = some (.cells cur e (0, 0))) /\ c ≠ 0 /\ ∃ off, A = some ⟨g, off, none⟩) /\ ∀ g off, A2 = some ⟨g, off, none⟩ -> (c ≠ 0 /\ ∃ off, A = some ⟨g, off, none⟩) ∨ w.heap.size <= g := by
 obtain ⟨h0, ⟨rfl, rfl⟩ | ⟨g, off, cur, rfl, h2, h3, h4, h5, h6, h7⟩⟩ := ha
 . have hx : xs = [] := List.eq_nil_of_length_eq_zero (by simpa using h0)
   subst hx; obtain ⟨A2, c2, w2, hr, ho, hg, hc1, hc2⟩ := ku (P := P) (base := w.heap.size) t ty i z bytes ht hi hz hsize hby hzs hsz (c' := c') hsl h1 (by omega) (by rw [Nat.zero_add] at hbytes; exact hbytes) ai A; rw [Nat.zero_add, List.nil_append]; rcases ho with ho | ⟨e1, _⟩
   . refine ⟨A2, c2, w2, none, hr, (Que.of_own ho).more hbase, ⟨hg.os, hg.tape, hg.output, hg.size, fun k hk _ => hg.block k hk⟩, (fun g h => by cases h), fun g off e => .inr ?_⟩
     subst e; exact (ho.lt g rfl).1
   . omega
 . obtain ⟨b', off', rfl, hb', hcy⟩ := hsl.2 hm
   have hnews : ∀ j u, ys[j]? = some u -> w.cell? (Addr.add ⟨b', off', none⟩ j) = some u := fun j u hj => by rw [Addr.add_lit]; exact hcy j u hj
   by_cases hroom : n + m <= c
   . subst hsize
     have hf := run_firstCells_some (P := P) w i.size m ⟨b', off', none⟩ m c' ys hsl.1 hnews; have hfit : off + n * i.size + ys.length <= cur.size := by
      rw [hsl.1, h6, Nat.add_assoc, <- Nat.add_mul]; exact Nat.add_le_add_left (Nat.mul_le_mul_right _ hroom) _
     have hst := run_storeCells_at P g (off + n * i.size) e ys 0 cur w h3 (by simpa using hfit) h1; simp only [Nat.add_zero] at hst; refine ⟨some ⟨g, off, none⟩, c, w.setRow g (cur.toList.take (off + n * i.size) ++ ys ++ cur.toList.drop (off + n * i.size + ys.length)).toArray, some g, ?_, ?_, ⟨rfl, rfl, rfl, by simp, fun k _ hk => setRow_other w g k _ (fun e => hk (by simp [e]))⟩, (fun g' e' => by cases e'; exact ⟨h2, ⟨cur, h3⟩, by omega, off, rfl⟩), fun g' o' e' => .inl ⟨by omega, off, by cases e'; rfl⟩⟩
     . simp [Builtin.append_, run_underlying ht, sizeOf, typeInfo, hi, Builtin.lenOf, hroom, hf, Addr.add_lit, hst]
     . have hlen : (xs ++ ys).length = (n + m) * i.size := by rw [List.length_append, h0, hsl.1, Nat.add_mul]
       refine ⟨hlen, .inr ⟨g, off, _, rfl, h2, setRow_heap w g cur _ e _ h3, hroom, h5, ?_, ?_⟩⟩
       . simp only [List.size_toArray, List.length_append, List.length_take, List.length_drop, Array.length_toList]
         omega
       . have e1 : cur.toList.take (off + n * i.size) = cur.toList.take off ++ xs := by rw [<- h7, List.take_add]
         have e2 : (cur.toList.take off).length = off := by rw [List.length_take, Array.length_toList]; omega
         simp only [e1, List.append_assoc]; rw [List.drop_append_of_le_length (by omega), List.drop_of_length_le (by omega), List.nil_append, <- List.append_assoc, <- hlen]; exact List.take_left
   . obtain ⟨v', w2, hrun, r1, r2⟩ := run_append_arg_grows (P := P) w t ty e i z size bytes ht hi hz hsize hby hzs hsz ⟨g, off, none⟩ n c xs h0 (fun j u hj => by
       rw [Addr.add_lit]; have := (Que.sl (w := w) (base := base) (e := e) (c := c) ⟨h0, .inr ⟨g, off, cur, rfl, h2, h3, h4, h5, h6, h7⟩⟩).2; rcases Nat.eq_zero_or_pos n with hn | hn
       . subst hn
         have hx : xs = [] := List.eq_nil_of_length_eq_zero (by simpa using h0); subst hx; simp at hj
       . obtain ⟨b1, o1, e1, _, hc1⟩ := this hn
         simp at e1; obtain ⟨rfl, rfl⟩ := e1; exact hc1 j u hj) ⟨b', off', none⟩ m c' ys hsl.1 hnews (by omega) h63 hbytes
     rcases r1.2 with ⟨_, h8⟩ | ⟨g2, cap2, cur2, rfl, h8, _⟩
     . omega
     . exact ⟨_, cap2, w2, none, hrun, (Que.of_own r1).more hbase, r2, (fun g h => by cases h), fun g' o' e' => .inr (by cases e'; exact h8)⟩
end
section
open Go.Maps
def dI (v : Value) : Option (DataW Value × List MemPlace) := some (.held v, [])
theorem lg {v u : Value} {ps : List MemPlace} (h : dI v = some (.held u, ps)) : v = u := by
 simp [dI] at h; exact h.1
def Rm (w : World) (P : Program) (k : TypeId) (b N : Nat) (g : ByteArray -> Option Value) : Prop :=
 ∃ D : DataW Value, w.ownsMap P k dI b N D /\ ∀ s : ByteArray, Maps.has D (.string s.data.toList) = (g s).isSome /\ ∀ z, D.atKey (.string s.data.toList) (.held z) = .held ((g s).getD z)
def upd (g : ByteArray -> Option Value) (s : ByteArray) (v : Value) : ByteArray -> Option Value := fun t => if t = s then some v else g t
theorem Ca (g : ByteArray -> Option Value) (s : ByteArray) (v : Value) : upd g s v s = some v := by simp [upd]
theorem Bc (g : ByteArray -> Option Value) {s t : ByteArray} (v : Value) (h : t ≠ s) : upd g s v t = g t := by simp [upd, h]
section
variable {w w' : World} {P : Program} {k t e : TypeId} {b N : Nat} {g : ByteArray -> Option Value}
theorem Rm.made (w : World) (P : Program) (k : TypeId) : Rm (w.alloc (.map #[] 0)) P k w.heap.size 0 (fun _ => none) :=
 ⟨.map [], World.ownsMap_made w P k dI, fun _ => ⟨rfl, fun _ => rfl⟩⟩
theorem Rm.lt (h : Rm w P k b N g) : b < w.heap.size := h.choose_spec.1.lt
theorem Rm.more (h : Rm w P k b N g) {M : Nat} (hm : N <= M) : Rm w P k b M g := by
 obtain ⟨D, h1, h2⟩ := h; exact ⟨D, h1.mono hm, h2⟩
theorem Rm.kept {row : Option Nat} (h : Rm w P k b N g) (hg : w.grownBy w' row) (hr : some b ≠ row) : Rm w' P k b N g := by
 obtain ⟨D, h1, h2⟩ := h; exact ⟨D, h1.kept hg hr, h2⟩
theorem Rm.below {B : Nat} (h : Rm w P k b N g) (hb : Below B w w') (hB : b < B) : Rm w' P k b N g := by
 obtain ⟨D, ⟨es, clock, h1, h2⟩, h3⟩ := h; exact ⟨D, ⟨es, clock, (hb.block b hB).trans h1, h2⟩, h3⟩
theorem Rm.alloc (h : Rm w P k b N g) (o : Obj) : Rm (w.alloc o) P k b N g := h.kept (World.grownBy_alloc w o none) (by simp)
theorem lS (hk : P.underlying k = some .string) {s : ByteArray} (hs : s.size <= maxLen) : keyOf P k (.string s) = some (.string s.data.toList) := by simp [keyOf, hk, mapKey]; exact hs
theorem Rm.look (h : Rm w P k b N g) (hk : P.underlying k = some .string) (ht : P.underlying t = some (.map k e)) {z : Value} (hz : (zeroValue e).run P w = .ok z w) {s : ByteArray} (hs : s.size <= maxLen) :
  (Instr.lookup t (.map (some b)) (.string s) false).run P w = .ok ((g s).getD z) w := by
 obtain ⟨D, h1, h2⟩ := h; obtain ⟨v, ps, hrun, hv⟩ := h1.lookup (string_keyed hk) ht hz (zd := .held z) (zp := []) rfl (lS hk hs); rw [(h2 s).2 z] at hv; rw [hrun, lg hv]
theorem Rm.look_ok (h : Rm w P k b N g) (hk : P.underlying k = some .string) (ht : P.underlying t = some (.map k e)) {z : Value} (hz : (zeroValue e).run P w = .ok z w) {s : ByteArray} (hs : s.size <= maxLen) :
  (Instr.lookup t (.map (some b)) (.string s) true).run P w = .ok (.tuple #[(g s).getD z, .bool (g s).isSome]) w := by
 obtain ⟨D, h1, h2⟩ := h; obtain ⟨v, ps, hrun, hv⟩ := h1.look_ok (string_keyed hk) ht hz (zd := .held z) (zp := []) rfl (lS hk hs); rw [(h2 s).2 z] at hv; rw [hrun, lg hv, (h2 s).1]
theorem lit_ne {s r : ByteArray} (h : r ≠ s) : (Lit.string r.data.toList) ≠ .string s.data.toList := fun e => h (iM (by injection e))
theorem Rm.put (h : Rm w P k b N g) (hk : P.underlying k = some .string) (ht : P.underlying t = some (.map k e)) (hn : N < maxLen) {s : ByteArray} (hs : s.size <= maxLen) (v : Value) :
  ∃ w', (Instr.mapUpdate t (.map (some b)) (.string s) v).run P w = .ok () w' /\ Rm w' P k b (N + 1) (upd g s v) /\ w.grownBy w' (some b) := by
 obtain ⟨D, h1, h2⟩ := h; obtain ⟨w', hrun, ho, hg⟩ := h1.update (string_keyed hk) ht hn (lS hk hs) (d := .held v) (ps := []) rfl; refine ⟨w', hrun, ⟨_, ho, fun r => ?_⟩, hg⟩; have hkl := (string_keyed hk).key (lS hk hs); by_cases hr : r = s
 . subst hr
   rw [Ca, has_put_same h1.isMap hkl]; exact ⟨rfl, fun z => atKey_put_same h1.isMap hkl _ _⟩
 . rw [Bc _ _ hr, has_put_other (lit_ne hr)]
   exact ⟨(h2 r).1, fun z => (atKey_put_other (lit_ne hr) _ _).trans ((h2 r).2 z)⟩
theorem kC {ops : Array Oper} {rest : List Oper} {o : Oper} {a : Act} {Q : Exit -> Act -> World -> Prop} (hgd : o.guard = none) (m x y : Operand) (t : TypeId) (hop : o.op = Op.mapUpdate t m x y)
  (k e : TypeId) (hk : P.underlying k = some .string) (ht : P.underlying t = some (.map k e)) (b N : Nat) (g : ByteArray -> Option Value) (hm : a.eval m = .map (some b)) (h : Rm w P k b N g) (hn : N < maxLen)
  (s : ByteArray) (hs : s.size <= maxLen) (v : Value) (hx : a.eval x = .string s) (hy : a.eval y = v)
  (hK : ∀ w', Rm w' P k b (N + 1) (upd g s v) -> w.grownBy w' (some b) -> wpList P ops Q rest (a.put o.dst undef) w') : wpList P ops Q (o :: rest) a w := by
 refine wpList_plain hgd fun K' hK' => ?_; obtain ⟨w', hrun, r1, r2⟩ := h.put hk ht hn hs v; unfold Oper.wp; simp [execOp, hop, hm, hx, hy, hrun, Result.andThen]; exact hK' _ _ (hK w' r1 r2)
/-! ### ranging -/
variable {r cnt : Nat} {left : ByteArray -> Bool}
end
end
section
def qL {α : Type} (F : Fence) (n : Nat) (P : Program) (g : Nat) (lb : Array Value) (encs : α -> Array Value) (Kp St : World -> World -> Prop) (Pf S Sp : List α -> Prop) (hz : Nat) (w : World) : Prop :=
 ∀ (l : Nat) (J Jx : List α -> World -> Prop) (W : World), Below w.heap.size w W -> W.heap.size = hz -> (∀ pre A B, J pre A -> St A B -> J pre B) ->
  (∀ pre x W1, Pf (pre ++ [x]) -> J pre W1 -> YieldAt F (n - 1) P l (encs x) W1 fun e W' =>
    (e = .returned (.bool true) /\ J (pre ++ [x]) W' /\ Kp W1 W') ∨ (e = .returned (.bool false) /\ Jx (pre ++ [x]) W')) ->
  J [] W ->
  CallsIn F n P g (#[.func (.yield l) #[] #[]] ++ lb) W fun e W' => (∃ v, e = .returned v) /\ ((∃ xs, S xs /\ J xs W') ∨ (∃ pre, Sp pre /\ Jx pre W'))
def Rec2 (D : Nat) (W W' : World) : Prop := W'.heap[D]? = W.heap[D]? /\ W'.heap[D + 1]? = W.heap[D + 1]?
theorem Rec2.refl (D : Nat) (W : World) : Rec2 D W W := ⟨rfl, rfl⟩
def DD {α : Type} (D : Nat) (Kp : World -> World -> Prop) (I : List α -> World -> Prop) (Ix : Code -> List α -> World -> Prop) (xs : List α) (W : World) : Exit -> Act -> World -> Prop
 | .normal, _, W' => Rec2 D W W' /\ Kp W W' /\ I xs W'
 | .ret, _, W' => Rec2 D W W' /\ Ix .ret xs W'
 | .exit id, _, W' => Rec2 D W W' /\ Ix (.exit id) xs W'
 | .goto t, _, W' => Rec2 D W W' /\ Ix (.goto t) xs W'
 | .panic _, _, _ => False
 | .outgrown, _, _ => False
variable {F : Fence} {n : Nat} {P : Program}
end
section
open Go.Maps
section
variable {F : Fence} {n' : Nat} {P : Program} {w : World}
theorem mY {base size : Nat} {ops : Array Oper} {rest : List Oper} {o : Oper} {a : Act} {Q : Exit -> Act -> World -> Prop} (hgd : o.guard = none) (s x : Operand) (t : TypeId)
  (ho : o.op = .call { callee := .builtin .append, args := #[s, x], argTypes := #[t, t] })
  (e : TypeId) (i : TypeInfo) (z : Value) (bytes : Nat) (ht : P.underlying t = some (.slice e)) (hi : P.info? e = some i) (hz : i.zero = some z)
  (hsize : i.size = size) (hby : i.bytes = bytes) (hzs : z.cells.size = size) (hsz : 0 < size)
  (v : Value) (n : Nat) (xs : List Value) (hs : a.eval s = v) (hown : w.ownsRow base e size v n xs)
  (B : Nat) (A : OA) (m c : Nat) (ys : List Value) (hx : a.eval x = .slice A m c) (hsl : Sl w B size A m ys) (h1 : ∀ u ∈ ys, u.oneCell' = true)
  (h63 : n + m <= maxLen) (hbytes : (n + m) * bytes <= 140737488355328) (hbase : base <= w.heap.size)
  (h : ∀ A' c' w', w'.ownsRow base e size (.slice A' (n + m) c') (n + m) (xs ++ ys) -> w.grownBy w' v.ownBlock -> n + m <= c' -> c' <= maxLen -> wpListIn F n' P ops Q rest (a.put o.dst (.slice A' (n + m) c')) w') : wpListIn F n' P ops Q (o :: rest) a w := by
 refine wpListIn_plain hgd fun K hK => ?_; obtain ⟨A', c', w', hr, ho', hg, hc1, hc2⟩ := kz (P := P) t o.type i z bytes ht hi hz hsize hby hzs hsz hown (c := c) hsl h1 h63 hbytes hbase; unfold Oper.wpIn; refine ⟨?_, ?_⟩
 . simp [Oper.about, ho, resolve, Target.leads, Sem.run_pure]
 . rw [Oper.semAt_plain F _ _ (by rw [ho]; intro c hc'; cases hc')]
   simp [execOp, ho, resolve, invoke, builtin, hs, hx, hr, Result.andThen]; exact hK _ _ (h A' c' w' ho' hg hc1 hc2)
end
def isRow (e : TypeId) : Option Obj -> Prop
 | some (.cells _ t _) => t = e
 | _ => False
structure KeepR (bm : Nat) (e : TypeId) (Kf : Nat -> Prop) (A B : World) : Prop where
 size : A.heap.size <= B.heap.size
 block : ∀ k, k < A.heap.size -> (k = bm ∨ isRow e A.heap[k]? ∨ Kf k) -> B.heap[k]? = A.heap[k]?
theorem KeepR.trans {bm : Nat} {e : TypeId} {Kf : Nat -> Prop} {A B C : World} (h : KeepR bm e Kf A B) (g : KeepR bm e Kf B C) : KeepR bm e Kf A C :=
 ⟨Nat.le_trans h.size g.size, fun k hk hc => by
   have h1 := h.block k hk hc; rw [<- h1] at hc ⊢; exact g.block k (Nat.lt_of_lt_of_le hk h.size) hc⟩
structure StepR (bm : Nat) (e : TypeId) (A B : World) : Prop where
 os : B.os = A.os
 tape : B.tape = A.tape
 output : B.output = A.output
 size : A.heap.size <= B.heap.size
 block : ∀ k, k < A.heap.size -> (k < bm ∨ (k ≠ bm /\ ¬ isRow e A.heap[k]?)) -> B.heap[k]? = A.heap[k]?
theorem StepR.of_grown {bm : Nat} {e : TypeId} {A B : World} {row : Option Nat} (hg : A.grownBy B row) (hr : ∀ g, row = some g -> g = bm ∨ (bm < g /\ isRow e A.heap[g]?)) : StepR bm e A B :=
 ⟨hg.os, hg.tape, hg.output, hg.size, fun k hk h1 => hg.block k hk (fun e' => by
   rcases hr k e'.symm with h | ⟨h, h2⟩
   . rcases h1 with h1 | ⟨h1, _⟩
     . omega
     . exact h1 h
   . rcases h1 with h1 | ⟨_, h1⟩
     . omega
     . exact h1 h2)⟩
theorem StepR.alloc {bm : Nat} {e : TypeId} (A : World) (o : Obj) : StepR bm e A (A.alloc o) := StepR.of_grown (World.grownBy_alloc A o none) (fun g h => by cases h)
theorem Rm.block {w w' : World} {P : Program} {k : TypeId} {b N : Nat} {g : ByteArray -> Option Value} (h : Rm w P k b N g) (hb : w'.heap[b]? = w.heap[b]?) : Rm w' P k b N g := by
 obtain ⟨D, ⟨es, clock, h1, h2⟩, h3⟩ := h; exact ⟨D, ⟨es, clock, hb.trans h1, h2⟩, h3⟩
end
section
open Go.Maps
attribute [local go_sem] Oper.semAt_some
theorem FH {a b : ByteArray} (h : a ≠ b) : (a.toList == b.toList) = false := by
 rw [beq_eq_false_iff_ne]; intro e; rw [ByteArray.toList_eq, ByteArray.toList_eq] at e; exact h (iM e)
end
section
open Go.Maps
attribute [local go_sem] Oper.semAt_some
theorem uF {bm : Nat} {e : TypeId} {Kf : Nat -> Prop} (W : World) (l : Nat) (r : Loop) (o' : Obj) (hl : W.heap[l]? = some (.loop r)) (hb : l ≠ bm) (hf : ¬ Kf l) : KeepR bm e Kf W (W.putObj l o') :=
 ⟨by simp, fun k _ hk => World.putObj_heap_other (fun e' => by
   subst e'; rcases hk with h | h | h
   . exact hb h
   . rw [hl] at h; exact h
   . exact hf h)⟩
theorem KeepR.refl (bm : Nat) (e : TypeId) (Kf : Nat -> Prop) (W : World) : KeepR bm e Kf W W := ⟨Nat.le_refl _, fun _ _ _ => rfl⟩
theorem StepR.below {bm B : Nat} {e : TypeId} {A C w : World} (h : StepR bm e A C) (hb : Below B w A) (hB : B <= bm) (hz : B <= A.heap.size) : Below B w C :=
 hb.trans ⟨h.os, h.tape, h.output, h.size, fun k hk => h.block k (by omega) (.inl (by omega))⟩
theorem uw {bm D : Nat} {e : TypeId} {A C : World} (h : StepR bm e A C) (hD : D + 2 = bm) (hz : bm <= A.heap.size) : Rec2 D A C :=
 ⟨h.block D (by omega) (.inl (by omega)), h.block (D + 1) (by omega) (.inl (by omega))⟩
theorem nU {w w' : World} {b : Nat} {v : Value} {t : TypeId} {row : Option Nat} (h : w.heap[b]? = some (.cells #[v] t (0, 0))) (hg : w.grownBy w' row) (hr : some b ≠ row) : w'.heap[b]? = some (.cells #[v] t (0, 0)) :=
 (hg.block b (Array.getElem?_eq_some_iff.1 h).1 hr).trans h
end
section
open Go.Maps
theorem ET : (Tryz.prog.info? 9).map (fun i => (i.zero, i.size, i.bytes)) = some (some (.string ⟨#[]⟩), 1, 16) := by kernel_rfl
theorem tJ {w w1 : World} (hg : w.grownBy w1 none) : Below w.heap.size w w1 := ⟨hg.os, hg.tape, hg.output, hg.size, fun k hk => hg.block k hk (by simp)⟩
abbrev Ix := Bool × ByteArray
end
section
open Go.Maps
theorem Dq (w : World) (t : TypeId) (x : ByteArray) : ∀ j u, [Value.string x][j]? = some u -> (w.alloc (.cells #[.string x] t)).cell? (Addr.add ⟨w.heap.size, 0, none⟩ j) = some u := by
 intro j u h; cases j with
 | zero =>
   have hk : Bk (w.alloc (.cells #[.string x] t)) w.heap.size t #[.string x] := Bk.new w _ _; have := hk.cell 0; simp at this h; subst h; simp [Addr.add]
 | succ j => simp at h
end
section
open Go.Maps
attribute [local go_sem] Oper.semAt_some
theorem kZ (a b : ByteArray) : Op.bytesLess a.toList b.toList = less a b := by
 rw [ByteArray.toList_eq, ByteArray.toList_eq]; rfl
end
section
def aG (a : Act) : List (Tmp × Value) -> Act
 | [] => a
 | p :: r => aG (a.put (some p.1) p.2) r
theorem Ea (a : Act) (d : Tmp) (v u : Value) : (a.put (some d) v).put (some d) u = a.put (some d) u := by
 simp [Act.put]
theorem nG (a : Act) (d : Tmp) (v : Value) : ∀ (l : List (Tmp × Value)), (∀ p ∈ l, p.1 ≠ d) -> aG (a.put (some d) v) l = (aG a l).put (some d) v
 | [], _ => rfl
 | p :: l, h => by
   have hne : p.1 ≠ d := h p (by simp); show aG ((a.put (some d) v).put (some p.1) p.2) l = (aG (a.put (some p.1) p.2) l).put (some d) v; rw [Act.put_comm a v p.2 (x := some d) (y := some p.1) (fun x hx e => by cases hx; cases e; exact hne rfl)]; exact nG _ d v l (fun q hq => h q (by simp [hq]))
theorem jq (a : Act) : ∀ (ds : List Tmp) (vs : List Value) (i : Nat) (d : Tmp) (v : Value), ds.Nodup -> ds.length = vs.length -> ds[i]? = some d ->
  aG a (ds.zip (vs.set i v)) = (aG a (ds.zip vs)).put (some d) v
 | [], _, _, _, _, _, _, h => by simp at h
 | d0 :: ds, [], _, _, _, _, hl, _ => by simp at hl
 | d0 :: ds, v0 :: vs, 0, d, v, hn, hl, h => by
   simp only [List.getElem?_cons_zero, Option.some.injEq] at h; subst h; have hnd := List.nodup_cons.1 hn; have hm : ∀ p ∈ ds.zip vs, p.1 ≠ d0 := fun p hp e => hnd.1 (by have := (List.of_mem_zip hp).1; rwa [e] at this); show aG (a.put (some d0) v) (ds.zip vs) = (aG (a.put (some d0) v0) (ds.zip vs)).put (some d0) v; rw [nG _ _ _ _ hm, nG _ _ _ _ hm, Ea]
 | d0 :: ds, v0 :: vs, i + 1, d, v, hn, hl, h => by
   simp only [List.getElem?_cons_succ] at h; show aG (a.put (some d0) v0) (ds.zip (vs.set i v)) = (aG (a.put (some d0) v0) (ds.zip vs)).put (some d) v; exact jq _ ds vs i d v (List.nodup_cons.1 hn).2 (by simpa using hl) h
theorem Cx (a : Act) (d : Tmp) : a.put (some d) (a.tmps.getD d undef) = a := by
 show ({ a with tmps := a.tmps.setIfInBounds d (a.tmps.getD d undef) } : Act) = a; have : a.tmps.setIfInBounds d (a.tmps.getD d undef) = a.tmps := ?_
 . rw [this]
 apply Array.ext
 . simp
 . intro i h1 h2
   rw [Array.getElem_setIfInBounds (by simpa using h2)]; split
   . rename_i e; subst e; simp [show d < a.tmps.size by simpa using h2]
   . rfl
theorem jm (a : Act) : ∀ (ds : List Tmp), aG a (ds.zip (ds.map fun d => a.tmps.getD d undef)) = a
 | [] => rfl
 | d :: ds => by
   show aG (a.put (some d) (a.tmps.getD d undef)) _ = a; rw [Cx]; exact jm a ds
variable {P : Program} {Q : Exit -> Act -> World -> Prop}
def Gives (P : Program) (o : Oper) (a : Act) (w : World) (Ψ : Value -> World -> Prop) : Prop :=
 ∀ (K : Act -> World -> Prop) (Q : Exit -> Act -> World -> Prop), (∀ v w', Ψ v w' -> K (a.put o.dst v) w') -> o.wp P a w K Q
theorem ax {o : Oper} {a : Act} {w w' : World} {v : Value} {Ψ : Value -> World -> Prop} (hr : (execOp a.eval o).run P w = .ok (.value v) w') (h : Ψ v w') : Gives P o a w Ψ := fun K Q hK => by
 unfold Oper.wp; rw [hr]; exact hK v w' h
theorem bU {o : Oper} {a : Act} {w : World} {f : FuncId} {args : Array Value} {Ψ : Value -> World -> Prop} (hr : (execOp a.eval o).run P w = .ok (.enter f args) w)
  (h : Calls P f args w fun e w' => ∃ v, e = .returned v /\ Ψ v w') : Gives P o a w Ψ := fun K Q hK => by
 unfold Oper.wp; rw [hr]; exact h.mono fun e w' ⟨v, he, hv⟩ => by subst he; exact hK v w' hv
theorem kH {o : Oper} {a : Act} {w w' : World} {r v u : Value} {Ψ : Value -> World -> Prop} (s x : Operand) (t : TypeId) (ho : o.op = .call { callee := .builtin .append, args := #[s, x], argTypes := #[t, t] })
  (hs : a.eval s = v) (hx : a.eval x = u) (hr : (Builtin.append_ #[t, t] o.type #[v, u]).run P w = .ok r w') (h : Ψ r w') : Gives P o a w Ψ :=
 ax (v := r) (w' := w') (by simp [execOp, ho, resolve, invoke, builtin, hs, hx, hr, Result.andThen]) h
def dstsOf (l : List Oper) (n : Nat) : List Tmp := (l.take n).map fun o => o.dst.getD 0
def bS (l : List Oper) (n : Nat) : Array Bool := ((List.range l.length).map fun i => decide (i < n)).toArray
def p9 (l : List Oper) (n : Nat) : Bool :=
 decide (n < l.length) && Region.sinkB .any l.toArray n && Region.chainB .any l.toArray n && Region.seqB .any l.toArray (l.length - n) n (bS l n) &&
 (l.take n).all (fun o => o.dst.isSome && o.guard.isNone) && decide (dstsOf l n).Nodup && (List.range n).all (fun i => match l[i]? with | some o => o.after.all (fun e => decide (e.on < i)) | none => false)
theorem kF {l : List Bool} {i : Nat} (h : l[i]? = some false) : (l.set i true).count false + 1 = l.count false := by
 induction l generalizing i with
 | nil => simp at h
 | cons b l ih =>
   cases i with
   | zero => simp only [List.getElem?_cons_zero, Option.some.injEq] at h; subst h; simp
   | succ i =>
     simp only [List.getElem?_cons_succ] at h; have := ih h; cases b <;> simp [List.set_cons_succ] <;> omega
theorem yM {id : Nat} {l : List Oper} {a0 : Act} {w0 : World} (n : Nat) (hm : P.follows .mixedOrders = true) (hB : p9 l n = true)
  (R : World -> Prop) (E : World -> World -> Prop) (Φ : Nat -> Value -> World -> Prop) (hR : ∀ w w', R w -> E w w' -> R w') (hΦ : ∀ i v w w', Φ i v w -> E w w' -> Φ i v w')
  (h0 : R { w0 with drawn := w0.drawn + 1 })
  (hstep : ∀ (i : Nat) (o : Oper) (vs : List Value) (w : World), i < n -> l[i]? = some o -> vs.length = n -> R w -> (∀ e ∈ o.after, Region.binds .any e = true -> ∀ v, vs[e.on]? = some v -> Φ e.on v w) ->
    Gives P o (aG a0 ((dstsOf l n).zip vs)) w fun v w' => E w w' /\ Φ i v w')
  (htail : ∀ (vs : List Value) (w : World), vs.length = n -> R w -> (∀ i v, vs[i]? = some v -> Φ i v w) -> wpList P l.toArray Q (l.drop n) (aG a0 ((dstsOf l n).zip vs)) w) :
  (Code.region id l.toArray true).wp P Q a0 w0 := by
 simp only [p9, Bool.and_eq_true, decide_eq_true_eq, List.all_eq_true] at hB; obtain ⟨⟨⟨⟨⟨⟨hn, hs⟩, hc⟩, hseq⟩, hdst⟩, hnd⟩, hback⟩ := hB; have hdl : (dstsOf l n).length = n := by simp [dstsOf]; omega
 refine wp_region_any hm ?_
 -- the state: which operations have been carried out, what the temporaries hold
 have main : ∀ (f : Nat) (listed : Array Bool) (vs : List Value) (w : World), HeadInv .any l.toArray n listed -> vs.length = n -> R w ->
   (∀ i v, i < n -> listed.getD i false = true -> vs[i]? = some v -> Φ i v w) -> (listed.toList.take n).count false = f ->
   wpAny P .any l.toArray Q (f + (l.length - n)) listed (aG a0 ((dstsOf l n).zip vs)) w := by
  intro f
  induction f with
  | zero =>
    intro listed vs w inv hv hw hphi hcnt; have hall : ∀ i, i < n -> listed.getD i false = true := by
     intro i hi; have hsz : i < listed.size := by rw [inv.size]; simp; omega
     have hmem : listed.toList[i]? = some listed[i] := by simp [hsz]
     have hne : listed[i] ≠ false := by
      intro e; have hm2 : false ∈ listed.toList.take n := by
       rw [List.mem_take_iff_getElem]; exact ⟨i, by simp; omega, by simpa using e⟩
      have := List.count_pos_iff.2 hm2; omega
     simp [hsz]; simpa using hne
    have hfull : listed = bS l n := by
     apply Array.ext
     . rw [inv.size]; simp [bS]
     . intro i h1 h2
       have hil : i < l.length := by rw [inv.size] at h1; simpa using h1
       simp only [bS, List.getElem_toArray, List.getElem_map, List.getElem_range]; by_cases hi : i < n
       . have := hall i hi; simp [h1] at this; simp [this, hi]
       . have := inv.tail i (by omega) (by simpa using hil); simp [h1] at this; simp [this, hi]
    subst hfull; have hw' := htail vs w hv hw (fun i v hi => hphi i v (by have := (List.getElem?_eq_some_iff.1 hi).1; omega) (hall i (by have := (List.getElem?_eq_some_iff.1 hi).1; omega)) hi); have := wpAny_of_seq (md := .any) (Q' := Q) (l.drop n) n (bS l n) _ w (fun j => by simp [List.getElem?_drop]) (by rw [List.length_drop]; exact hseq) hw'; rw [List.length_drop] at this
    simpa using this
  | succ f ih =>
    intro listed vs w inv hv hw hphi hcnt; have hun : ∃ i, i < n /\ listed.getD i true = false := by
     have : 0 < (listed.toList.take n).count false := by omega
     have hm2 := List.count_pos_iff.1 this; rw [List.mem_take_iff_getElem] at hm2; obtain ⟨i, hi, hv2⟩ := hm2; refine ⟨i, by simp at hi; omega, ?_⟩; have hsz : i < listed.size := by simp at hi; omega
     rw [Array.getD_eq_getD_getElem?, Array.getElem?_eq_getElem hsz]; simpa using hv2
    rw [show f + 1 + (l.length - n) = (f + (l.length - n)) + 1 by omega]; obtain ⟨i0, hi0, hu0⟩ := hun; have hready_lt : ∀ i ∈ Region.ready .any l.toArray listed, i < n := by
     intro i hi; rcases Nat.lt_or_ge i n with h | h
     . exact h
     . exact absurd hi (tail_waits hs hc (by simpa using hn) inv _ i0 rfl hi0 hu0 i h)
    have hne : Region.ready .any l.toArray listed ≠ [] := by
     -- the first operation that is not yet carried out and whose own conditions are all met: by the least such index
     intro hnil; obtain ⟨m, hm1, hm2⟩ : ∃ m, (m < n /\ listed.getD m true = false) /\ ∀ k, k < m -> ¬ (k < n /\ listed.getD k true = false) := by
      have : ∀ m, (m < n /\ listed.getD m true = false) -> ∃ m, (m < n /\ listed.getD m true = false) /\ ∀ k, k < m -> ¬ (k < n /\ listed.getD k true = false) := by
       intro m
       induction m using Nat.strongRecOn with
       | _ m ihm =>
         intro h; by_cases hex : ∃ k, k < m /\ (k < n /\ listed.getD k true = false)
         . obtain ⟨k, hk, hk2⟩ := hex; exact ihm k hk hk2
         . exact ⟨m, h, fun k hk hk2 => hex ⟨k, hk, hk2⟩⟩
      exact this i0 ⟨hi0, hu0⟩
     have hml : m < l.length := by omega
     have hmo : l[m]? = some l[m] := List.getElem?_eq_getElem hml; have hb1 := hback m (List.mem_range.2 hm1.1); rw [hmo] at hb1; simp only at hb1; have hmr : m ∈ Region.ready .any l.toArray listed := by
      refine mem_ready.2 ⟨hm1.2, l[m], by simp, fun e he _ => ?_⟩; have hlt : e.on < m := by
       have := (Array.all_eq_true_iff_forall_mem.1 hb1) e he
       simpa using this
      have hnot := hm2 e.on hlt; cases hx : listed.getD e.on true with
      | true =>
        have hsz : e.on < listed.size := by rw [inv.size]; simp; omega
        simp [hsz] at hx ⊢; exact hx
      | false => exact absurd ⟨by omega, hx⟩ hnot
     rw [hnil] at hmr; cases hmr
    refine ⟨fun h => absurd h hne, fun i hi => ?_⟩; have hin := hready_lt i hi; obtain ⟨hlf, o, ho, hdeps⟩ := mem_ready.1 hi; have ho' : l[i]? = some o := by simpa using ho
    have hmem : o ∈ l.take n := List.mem_take_iff_getElem.2 ⟨i, (by have := (List.getElem?_eq_some_iff.1 ho').1; omega), (List.getElem?_eq_some_iff.1 ho').2⟩; have hdo := hdst o hmem; obtain ⟨d, hd⟩ := Option.isSome_iff_exists.1 hdo.1; have hg : o.guard = none := by simpa using hdo.2
    have hdi : (dstsOf l n)[i]? = some d := by
     simp [dstsOf, hin, ho', hd]
    have hgive := hstep i o vs w hin ho' hv hw (fun e he hb v hve => by
     have hle := hdeps e he hb; have hen : e.on < n := by have := (List.getElem?_eq_some_iff.1 hve).1; omega
     exact hphi e.on v hen hle hve)
    unfold wpOp; simp only [ho, Region.wanted, hg, if_true]; refine .inl (hgive _ _ fun v w' hvw => ?_); rw [hd, <- jq a0 (dstsOf l n) vs i d v hnd (by rw [hdl, hv]) hdi]; have hsz : i < listed.size := by rw [inv.size]; simp; omega
    have hli : listed.toList[i]? = some false := by
     simp [hsz] at hlf ⊢; exact hlf
    refine ih (listed.setIfInBounds i true) (vs.set i v) w' (inv.set hi hin) (by simpa using hv) (hR w w' hw hvw.1) ?_ ?_
    . intro j u hj hlj huj
      by_cases e : j = i
      . subst e
        have hjl : j < vs.length := by omega
        rw [List.getElem?_set_self hjl] at huj; cases huj; exact hvw.2
      . rw [List.getElem?_set_ne (fun h => e h.symm)] at huj
        rw [getD_set_ne false (fun h => e h.symm)] at hlj; exact hΦ j u w w' (hphi j u hj hlj huj) hvw.1
    . have : (listed.setIfInBounds i true).toList.take n = (listed.toList.take n).set i true := by
        rw [Array.toList_setIfInBounds, List.take_set]
      rw [this]; have h2 := kF (l := listed.toList.take n) (i := i) (by rw [List.getElem?_take, if_pos hin]; exact hli); omega
 have inv0 : HeadInv .any l.toArray n (Array.replicate l.toArray.size false) :=
  ⟨by simp, fun j oj _ hl => (by rw [getD_replicate_false] at hl; cases hl), fun t _ ht => getD_in (by simpa using ht) (getD_replicate_false _ _)⟩
 have := main n (Array.replicate l.toArray.size false) ((dstsOf l n).map fun d => a0.tmps.getD d undef) _ inv0 (by simpa using hdl) h0
  (fun i v _ hl _ => by rw [getD_replicate_false] at hl; cases hl) (by simp; omega)
 rw [jm, show n + (l.length - n) = l.toArray.size by simp; omega] at this; exact this
theorem yG {id : Nat} {l : List Oper} {a0 : Act} {w0 : World} (n : Nat) (ds : List Tmp) (hm : P.follows .mixedOrders = true) (hB : p9 l n = true) (hds : dstsOf l n = ds)
  (R : World -> Prop) (E : World -> World -> Prop) (Φ : Nat -> Value -> World -> Prop) (hR : ∀ w w', R w -> E w w' -> R w') (hΦ : ∀ i v w w', Φ i v w -> E w w' -> Φ i v w')
  (h0 : R w0.drew)
  (hstep : ∀ (i : Nat) (o : Oper) (vs : List Value) (w : World), i < n -> l[i]? = some o -> vs.length = n -> R w -> (∀ e ∈ o.after, Region.binds .any e = true -> ∀ v, vs[e.on]? = some v -> Φ e.on v w) ->
    Gives P o (aG a0 (ds.zip vs)) w fun v w' => E w w' /\ Φ i v w')
  (htail : ∀ (vs : List Value) (w : World), vs.length = n -> R w -> (∀ i v, vs[i]? = some v -> Φ i v w) -> wpList P l.toArray Q (l.drop n) (aG a0 (ds.zip vs)) w) :
  (Code.region id l.toArray true).wp P Q a0 w0 := by
 subst hds; exact yM n hm hB R E Φ hR hΦ h0 hstep htail
end
section
variable {P : Program} {Q : Exit -> Act -> World -> Prop}
def il (P : Program) (ops : Array Oper) (o : Oper) (a : Act) (w : World) (Ψ : Value -> World -> Prop) : Prop :=
 (Region.wanted o (yielded ops a.tmps) = true /\ Gives P o a w Ψ) ∨ (Region.wanted o (yielded ops a.tmps) = false /\ Ψ undef w)
def gy (l : List Oper) (n : Nat) : Bool :=
 decide (n < l.length) && Region.sinkB .any l.toArray n && Region.chainB .any l.toArray n && Region.seqB .any l.toArray (l.length - n) n (bS l n) &&
 (l.take n).all (fun o => o.dst.isSome) && decide (dstsOf l n).Nodup && (List.range n).all (fun i => match l[i]? with | some o => o.after.all (fun e => decide (e.on < i)) | none => false)
theorem yI {id : Nat} {l : List Oper} {a0 : Act} {w0 : World} (n : Nat) (hm : P.follows .mixedOrders = true) (hB : gy l n = true)
  (R : World -> Prop) (E : World -> World -> Prop) (Φ : Nat -> Value -> World -> Prop) (hR : ∀ w w', R w -> E w w' -> R w') (hΦ : ∀ i v w w', Φ i v w -> E w w' -> Φ i v w')
  (h0 : R { w0 with drawn := w0.drawn + 1 })
  (hstep : ∀ (i : Nat) (o : Oper) (vs : List Value) (w : World), i < n -> l[i]? = some o -> vs.length = n -> R w -> (∀ e ∈ o.after, Region.binds .any e = true -> ∀ v, vs[e.on]? = some v -> Φ e.on v w) ->
    il P l.toArray o (aG a0 ((dstsOf l n).zip vs)) w fun v w' => E w w' /\ Φ i v w')
  (htail : ∀ (vs : List Value) (w : World), vs.length = n -> R w -> (∀ i v, vs[i]? = some v -> Φ i v w) -> wpList P l.toArray Q (l.drop n) (aG a0 ((dstsOf l n).zip vs)) w) :
  (Code.region id l.toArray true).wp P Q a0 w0 := by
 simp only [gy, Bool.and_eq_true, decide_eq_true_eq, List.all_eq_true] at hB; obtain ⟨⟨⟨⟨⟨⟨hn, hs⟩, hc⟩, hseq⟩, hdst⟩, hnd⟩, hback⟩ := hB; have hdl : (dstsOf l n).length = n := by simp [dstsOf]; omega
 refine wp_region_any hm ?_
 -- the state: which operations have been carried out, what the temporaries hold
 have main : ∀ (f : Nat) (listed : Array Bool) (vs : List Value) (w : World), HeadInv .any l.toArray n listed -> vs.length = n -> R w ->
   (∀ i v, i < n -> listed.getD i false = true -> vs[i]? = some v -> Φ i v w) -> (listed.toList.take n).count false = f ->
   wpAny P .any l.toArray Q (f + (l.length - n)) listed (aG a0 ((dstsOf l n).zip vs)) w := by
  intro f
  induction f with
  | zero =>
    intro listed vs w inv hv hw hphi hcnt; have hall : ∀ i, i < n -> listed.getD i false = true := by
     intro i hi; have hsz : i < listed.size := by rw [inv.size]; simp; omega
     have hmem : listed.toList[i]? = some listed[i] := by simp [hsz]
     have hne : listed[i] ≠ false := by
      intro e; have hm2 : false ∈ listed.toList.take n := by
       rw [List.mem_take_iff_getElem]; exact ⟨i, by simp; omega, by simpa using e⟩
      have := List.count_pos_iff.2 hm2; omega
     simp [hsz]; simpa using hne
    have hfull : listed = bS l n := by
     apply Array.ext
     . rw [inv.size]; simp [bS]
     . intro i h1 h2
       have hil : i < l.length := by rw [inv.size] at h1; simpa using h1
       simp only [bS, List.getElem_toArray, List.getElem_map, List.getElem_range]; by_cases hi : i < n
       . have := hall i hi; simp [h1] at this; simp [this, hi]
       . have := inv.tail i (by omega) (by simpa using hil); simp [h1] at this; simp [this, hi]
    subst hfull; have hw' := htail vs w hv hw (fun i v hi => hphi i v (by have := (List.getElem?_eq_some_iff.1 hi).1; omega) (hall i (by have := (List.getElem?_eq_some_iff.1 hi).1; omega)) hi); have := wpAny_of_seq (md := .any) (Q' := Q) (l.drop n) n (bS l n) _ w (fun j => by simp [List.getElem?_drop]) (by rw [List.length_drop]; exact hseq) hw'; rw [List.length_drop] at this
    simpa using this
  | succ f ih =>
    intro listed vs w inv hv hw hphi hcnt; have hun : ∃ i, i < n /\ listed.getD i true = false := by
     have : 0 < (listed.toList.take n).count false := by omega
     have hm2 := List.count_pos_iff.1 this; rw [List.mem_take_iff_getElem] at hm2; obtain ⟨i, hi, hv2⟩ := hm2; refine ⟨i, by simp at hi; omega, ?_⟩; have hsz : i < listed.size := by simp at hi; omega
     rw [Array.getD_eq_getD_getElem?, Array.getElem?_eq_getElem hsz]; simpa using hv2
    rw [show f + 1 + (l.length - n) = (f + (l.length - n)) + 1 by omega]; obtain ⟨i0, hi0, hu0⟩ := hun; have hready_lt : ∀ i ∈ Region.ready .any l.toArray listed, i < n := by
     intro i hi; rcases Nat.lt_or_ge i n with h | h
     . exact h
     . exact absurd hi (tail_waits hs hc (by simpa using hn) inv _ i0 rfl hi0 hu0 i h)
    have hne : Region.ready .any l.toArray listed ≠ [] := by
     -- the first operation that is not yet carried out and whose own conditions are all met: by the least such index
     intro hnil; obtain ⟨m, hm1, hm2⟩ : ∃ m, (m < n /\ listed.getD m true = false) /\ ∀ k, k < m -> ¬ (k < n /\ listed.getD k true = false) := by
      have : ∀ m, (m < n /\ listed.getD m true = false) -> ∃ m, (m < n /\ listed.getD m true = false) /\ ∀ k, k < m -> ¬ (k < n /\ listed.getD k true = false) := by
       intro m
       induction m using Nat.strongRecOn with
       | _ m ihm =>
         intro h; by_cases hex : ∃ k, k < m /\ (k < n /\ listed.getD k true = false)
         . obtain ⟨k, hk, hk2⟩ := hex; exact ihm k hk hk2
         . exact ⟨m, h, fun k hk hk2 => hex ⟨k, hk, hk2⟩⟩
      exact this i0 ⟨hi0, hu0⟩
     have hml : m < l.length := by omega
     have hmo : l[m]? = some l[m] := List.getElem?_eq_getElem hml; have hb1 := hback m (List.mem_range.2 hm1.1); rw [hmo] at hb1; simp only at hb1; have hmr : m ∈ Region.ready .any l.toArray listed := by
      refine mem_ready.2 ⟨hm1.2, l[m], by simp, fun e he _ => ?_⟩; have hlt : e.on < m := by
       have := (Array.all_eq_true_iff_forall_mem.1 hb1) e he
       simpa using this
      have hnot := hm2 e.on hlt; cases hx : listed.getD e.on true with
      | true =>
        have hsz : e.on < listed.size := by rw [inv.size]; simp; omega
        simp [hsz] at hx ⊢; exact hx
      | false => exact absurd ⟨by omega, hx⟩ hnot
     rw [hnil] at hmr; cases hmr
    refine ⟨fun h => absurd h hne, fun i hi => ?_⟩; have hin := hready_lt i hi; obtain ⟨hlf, o, ho, hdeps⟩ := mem_ready.1 hi; have ho' : l[i]? = some o := by simpa using ho
    have hmem : o ∈ l.take n := List.mem_take_iff_getElem.2 ⟨i, (by have := (List.getElem?_eq_some_iff.1 ho').1; omega), (List.getElem?_eq_some_iff.1 ho').2⟩; have hdo := hdst o hmem; obtain ⟨d, hd⟩ := Option.isSome_iff_exists.1 hdo; have hdi : (dstsOf l n)[i]? = some d := by
     simp [dstsOf, hin, ho', hd]
    have hgive := hstep i o vs w hin ho' hv hw (fun e he hb v hve => by
     have hle := hdeps e he hb; have hen : e.on < n := by have := (List.getElem?_eq_some_iff.1 hve).1; omega
     exact hphi e.on v hen hle hve)
    have hgo : ∀ v w', (E w w' /\ Φ i v w') -> wpAny P .any l.toArray Q (f + (l.length - n)) (listed.setIfInBounds i true) ((aG a0 ((dstsOf l n).zip vs)).put o.dst v) w' := ?hgo
    case hgo =>
     intro v w' hvw; rw [hd, <- jq a0 (dstsOf l n) vs i d v hnd (by rw [hdl, hv]) hdi]; have hsz : i < listed.size := by rw [inv.size]; simp; omega
     have hli : listed.toList[i]? = some false := by
      simp [hsz] at hlf ⊢; exact hlf
     refine ih (listed.setIfInBounds i true) (vs.set i v) w' (inv.set hi hin) (by simpa using hv) (hR w w' hw hvw.1) ?_ ?_
     . intro j u hj hlj huj
       by_cases e : j = i
       . subst e
         have hjl : j < vs.length := by omega
         rw [List.getElem?_set_self hjl] at huj; cases huj; exact hvw.2
       . rw [List.getElem?_set_ne (fun h => e h.symm)] at huj
         rw [getD_set_ne false (fun h => e h.symm)] at hlj; exact hΦ j u w w' (hphi j u hj hlj huj) hvw.1
     . have : (listed.setIfInBounds i true).toList.take n = (listed.toList.take n).set i true := by
         rw [Array.toList_setIfInBounds, List.take_set]
       rw [this]; have h2 := kF (l := listed.toList.take n) (i := i) (by rw [List.getElem?_take, if_pos hin]; exact hli); omega
    unfold wpOp; simp only [ho]; rcases hgive with ⟨hw1, hw2⟩ | ⟨hw1, hw2⟩
    . rw [if_pos hw1]
      exact .inl (hw2 _ _ hgo)
    . rw [if_neg (by rw [hw1]; simp)]
      exact hgo undef w hw2
 have inv0 : HeadInv .any l.toArray n (Array.replicate l.toArray.size false) :=
  ⟨by simp, fun j oj _ hl => (by rw [getD_replicate_false] at hl; cases hl), fun t _ ht => getD_in (by simpa using ht) (getD_replicate_false _ _)⟩
 have := main n (Array.replicate l.toArray.size false) ((dstsOf l n).map fun d => a0.tmps.getD d undef) _ inv0 (by simpa using hdl) h0
  (fun i v _ hl _ => by rw [getD_replicate_false] at hl; cases hl) (by simp; omega)
 rw [jm, show n + (l.length - n) = l.toArray.size by simp; omega] at this; exact this
theorem eu {id : Nat} {l : List Oper} {a0 : Act} {w0 : World} (n : Nat) (ds : List Tmp) (hm : P.follows .mixedOrders = true) (hB : gy l n = true) (hds : dstsOf l n = ds)
  (R : World -> Prop) (E : World -> World -> Prop) (Φ : Nat -> Value -> World -> Prop) (hR : ∀ w w', R w -> E w w' -> R w') (hΦ : ∀ i v w w', Φ i v w -> E w w' -> Φ i v w')
  (h0 : R w0.drew)
  (hstep : ∀ (i : Nat) (o : Oper) (vs : List Value) (w : World), i < n -> l[i]? = some o -> vs.length = n -> R w -> (∀ e ∈ o.after, Region.binds .any e = true -> ∀ v, vs[e.on]? = some v -> Φ e.on v w) ->
    il P l.toArray o (aG a0 (ds.zip vs)) w fun v w' => E w w' /\ Φ i v w')
  (htail : ∀ (vs : List Value) (w : World), vs.length = n -> R w -> (∀ i v, vs[i]? = some v -> Φ i v w) -> wpList P l.toArray Q (l.drop n) (aG a0 (ds.zip vs)) w) :
  (Code.region id l.toArray true).wp P Q a0 w0 := by
 subst hds; exact yI n hm hB R E Φ hR hΦ h0 hstep htail
def gN (vals : List Value) (i : Nat) (v : Value) (_ : World) : Prop := ∀ u, vals[i]? = some u -> v = u
end
section
open Go.Maps
theorem zU {a b : ByteArray} {le : Bool} (h : (Op.bytesLess a.toList b.toList || a.toList == b.toList) = le) : less b a = !le := by
 rw [kZ, dx] at h; subst h; by_cases e : a = b
 . subst e; simp [eG]
 . simp only [e, decide_false, Bool.or_false]
   cases h1 : less a b with
   | true => rw [sH h1]; rfl
   | false =>
     cases h2 : less b a with
     | true => rfl
     | false => exact absurd (kJ h1 h2) e
end
section
open Go.Maps
theorem lW {x : Int} (h1 : -9223372036854775808 <= x) (h2 : x < 9223372036854775808) : IntKind.i64.wrap x = x := by
 simp [IntKind.wrap, IntKind.bits, IntKind.signed]; omega
theorem Av (s p : ByteArray) : Lib.hasPrefix (bl s) (bl p) = (decide (p.size <= s.size) && decide (s.extract 0 p.size = p)) := by
 show p.data.toList.isPrefixOf s.data.toList = _; rw [Bool.eq_iff_iff, List.isPrefixOf_iff_prefix, List.prefix_iff_eq_take, Bool.and_eq_true, decide_eq_true_iff, decide_eq_true_iff]; have hx : (s.extract 0 p.size).data.toList = s.data.toList.take p.size := by rw [kE]; simp
 constructor
 . intro h
   have hl := congrArg List.length h; simp at hl; refine ⟨by omega, ?_⟩; apply iM
   rw [hx]; exact h.symm
 . rintro ⟨_, h⟩
   have := congrArg (fun b : ByteArray => b.data.toList) h; rw [hx] at this; exact this.symm
end
section
open Go.RowKit Go.Shelf
def mX (s a b : ByteArray) (m : Bool) : Prop :=
 (bC (bl s) < s.size /\ a = s.extract 0 (bC (bl s)) /\ b = s.extract (bC (bl s) + 1) s.size /\ m = true) ∨ (bC (bl s) = s.size /\ a = s /\ b = ⟨#[]⟩ /\ m = false)
def xL (s : ByteArray) (w : World) (e : Ending) (w' : World) : Prop := ∃ a b m, e = .returned (.tuple #[.string a, .string b, .bool m]) /\ mX s a b m /\ Below w.heap.size w w'
theorem mq {c : Int} (h1 : ¬ (97 <= c /\ c <= 122)) (h2 : ¬ (65 <= c /\ c <= 90)) (h3 : ¬ (48 <= c /\ c <= 57)) (h4 : c ≠ 46) (h5 : c ≠ 95) (h6 : c ≠ 45) : fC c = false := by
 simp [fC, h4, h5, h6]; omega
theorem lX {c : Int} (h : (97 <= c /\ c <= 122) ∨ (65 <= c /\ c <= 90) ∨ (48 <= c /\ c <= 57) ∨ c = 46 ∨ c = 95 ∨ c = 45) : fC c = true := by
 simp [fC]; omega
theorem qg {c d : Int} (h : c = d) : (c == d) = true := by rw [h]; simp
theorem qf {c d : Int} (h : c ≠ d) : (c == d) = false := by simp [h]
theorem jr (s : ByteArray) (w : World) (hs : s.size <= maxLen) : Calls Tryz.prog 167 #[.string s] w fun e w' => e = .returned (.bool (aT s)) /\ w = w' := by
 unfold maxLen at hs; have HL := ah (eH s)
 go_enter Tryz.func167, Tryz.ntmps167
 have hno : ∀ b : Bool, aT s = b -> Hid (aT s = b) := fun b h => h; have hls : (bl s).length = s.size := (eH s).symm; by_cases c1 : (s.size : Int) < 1
 . have hv := hno false (by unfold aT dz; rw [decide_eq_false (by omega), Bool.false_and])
   clear hno hls; go_wp2_with fail; go_ret
   exact ⟨aZ hv.out.symm, rfl⟩
 by_cases c2 : (24 : Int) < (s.size : Int)
 . have hv := hno false (by unfold aT dz; rw [decide_eq_false (p := (bl s).length <= 24) (by omega)]; simp)
   clear hno hls; go_wp2_with fail; go_ret
   exact ⟨aZ hv.out.symm, rfl⟩
 have h3 : (s.toList == [46]) = decide (bl s = [46]) := by rw [ByteArray.toList_eq]; unfold bl; rw [Bool.eq_iff_iff]; simp
 have h4 : (s.toList == [46, 46]) = decide (bl s = [46, 46]) := by rw [ByteArray.toList_eq]; unfold bl; rw [Bool.eq_iff_iff]; simp
 by_cases c3 : bl s = [46]
 . have hv := hno false (by unfold aT dz; rw [decide_eq_true c3]; simp)
   rw [decide_eq_true c3] at h3; clear hno hls h4 c3; go_wp2_with fail; go_ret
   exact ⟨aZ hv.out.symm, rfl⟩
 rw [decide_eq_false c3] at h3; by_cases c4 : bl s = [46, 46]
 . have hv := hno false (by unfold aT dz; rw [decide_eq_true c4]; simp)
   rw [decide_eq_true c4] at h4; clear hno hls c4 c3; go_wp2_with fail; go_ret
   exact ⟨aZ hv.out.symm, rfl⟩
 rw [decide_eq_false c4] at h4; have HV : Hid (aT s = (bl s).all gL) := by
  show _ = _; unfold aT dz; rw [decide_eq_true (p := 1 <= (bl s).length) (by omega), decide_eq_true (p := (bl s).length <= 24) (by omega), decide_eq_false c3, decide_eq_false c4]; simp
 have HLS := ah hls; clear hno c3 c4 hls; go_wp2_with fail
 go_loop [3] (fun i => ∃ k : Nat, k <= s.size /\ i = .int .i64 k /\ Hid (AllTo (bl s) k)) (fun i => s.size - (intOf i).toNat)
 case atStart => exact ⟨0, Nat.zero_le _, rfl, fun j c h => absurd h (by omega)⟩
 case round =>
  obtain ⟨k, hk, rfl, hA⟩ := hrel; by_cases hlt : k < s.size
  . have hkz : (k : Int) < (s.size : Int) := by omega
    have HG := ah (oD s k hlt); have HT : Hid (fC (s[k].toNat : Int) = true -> AllTo (bl s) (k + 1)) := fun hv => hA.out.step HG.out hv; have HF : Hid (fC (s[k].toNat : Int) = false -> aT s = false) := fun hv => by
     rw [HV.out, List.all_eq_false]; exact ⟨s[k], List.mem_of_getElem? HG.out, by unfold gL; rw [hv]; simp⟩
    clear hA h3 h4; by_cases h46 : (s[k].toNat : Int) = 46
    . have t46 := qg h46
      go_wp2
      all_goals first
       | (go_ret; exact ⟨aZ (HF.out (mq (by omega) (by omega) (by omega) (by omega) (by omega) (by omega))).symm, rfl⟩)
       | (go_round
          case rel => exact ⟨k + 1, hlt, by go_num, HT.out (lX (by first | omega | (simp at *; omega)))⟩
          case measure => simp [intOf]; omega)
    . have t46 := qf h46
      by_cases h95 : (s[k].toNat : Int) = 95
      . have t95 := qg h95
        go_wp2
        all_goals first
         | (go_ret; exact ⟨aZ (HF.out (mq (by omega) (by omega) (by omega) (by omega) (by omega) (by omega))).symm, rfl⟩)
         | (go_round
            case rel => exact ⟨k + 1, hlt, by go_num, HT.out (lX (by first | omega | (simp at *; omega)))⟩
            case measure => simp [intOf]; omega)
      . have t95 := qf h95
        by_cases h45 : (s[k].toNat : Int) = 45
        . have t45 := qg h45
          go_wp2
          all_goals first
           | (go_ret; exact ⟨aZ (HF.out (mq (by omega) (by omega) (by omega) (by omega) (by omega) (by omega))).symm, rfl⟩)
           | (go_round
              case rel => exact ⟨k + 1, hlt, by go_num, HT.out (lX (by first | omega | (simp at *; omega)))⟩
              case measure => simp [intOf]; omega)
        . have t45 := qf h45
          go_wp2
          all_goals first
           | (go_ret; refine ⟨aZ (HF.out (mq ?_ ?_ ?_ h46 h95 h45)).symm, rfl⟩ <;> omega)
           | (go_round
              case rel => exact ⟨k + 1, hlt, by go_num, HT.out (lX (by first | omega | (simp at *; omega)))⟩
              case measure => simp [intOf]; omega)
  . have hkz : ¬ (k : Int) < (s.size : Int) := by omega
    have HT : Hid (aT s = true) := by
     show _ = _; rw [HV.out]; refine AllTo.all ?_; have := hA.out
     rwa [show k = (bl s).length from by rw [HLS.out]; omega] at this
    clear hA; go_wp2_with fail; go_ret
    exact ⟨aZ HT.out.symm, rfl⟩
end
section
open Go.RowKit Go.Shelf
theorem Bo {l : List UInt8} {i : Nat} (h1 : l[i]? = some 47) (h2 : ∀ j, j < i -> l[j]? ≠ some 47) : bC l = i :=
 nW h2 (Nat.le_of_lt (List.getElem?_eq_some_iff.1 h1).1) (.inr h1)
theorem BA {l : List UInt8} (h : ∀ c ∈ l, c ≠ 47) : bC l = l.length :=
 nW (fun _ _ e => h 47 (List.mem_of_getElem? e) rfl) ai (.inl rfl)
theorem zM (s : ByteArray) (w : World) (hs : s.size <= maxLen) : Calls Tryz.prog 134 #[.string s, .string ⟨#[47]⟩] w (xL s w) := by
 have hs' : s.size <= 9223372036854775807 := by unfold maxLen at hs; exact hs
 have HX := ah (Tryz.stringslite_Index_one s 47 w); by_cases hi : Lib.indexByte s.data.toList 47 = -1
 . have HN : Hid (mX s s ⟨#[]⟩ false) := by
     have : bC (bl s) = s.size := BA (fun c hc e => by
      obtain ⟨j, hj, e'⟩ := List.getElem_of_mem hc; exact Lib.indexByte_none hi j (by rw [<- e, <- e']; exact List.getElem?_eq_getElem _))
     exact .inr ⟨this, rfl, rfl, rfl⟩
   rw [hi] at HX; clear hi
   go_enter Tryz.func134, Tryz.ntmps134
   go_wp2_with fail; refine HX.out.mono ?_; rintro e w1 ⟨rfl, rfl⟩; go_wp2_with fail
   go_ret3
   exact ⟨_, _, _, rfl, HN.out, Below.refl _ _⟩
 . obtain ⟨i, hi'⟩ : ∃ i : Nat, Lib.indexByte s.data.toList 47 = i := ⟨(Lib.indexByte s.data.toList 47).toNat, by have := Lib.indexByte_ge s.data.toList 47; omega⟩
   obtain ⟨h1, h2⟩ := Lib.indexByte_some hi'; have hil : i < s.size := by rw [eH]; exact (List.getElem?_eq_some_iff.1 h1).1
   have HN : Hid (mX s (s.extract 0 i) (s.extract (i + 1) s.size) true) := by
    have e : bC (bl s) = i := Bo h1 h2; exact .inl ⟨by rw [e]; exact hil, by rw [e], by rw [e], rfl⟩
   rw [hi'] at HX; clear hi hi' h1 h2
   go_enter Tryz.func134, Tryz.ntmps134
   go_wp2_with fail; refine HX.out.mono ?_; rintro e w1 ⟨rfl, rfl⟩; have hi0 : (0 : Int) <= (i : Int) := by omega
   go_wp2_with fail
   go_quiet (fail)
   go_wp2_with fail
   go_ret3
   exact ⟨_, _, _, rfl, HN.out, aM (Below.refl _ _) _⟩
theorem Ew (s : ByteArray) (w : World) (hs : s.size <= maxLen) : Calls Tryz.prog 106 #[.string s, .string ⟨#[47]⟩] w (xL s w) := by
 have HX := ah (zM s w hs)
 go_enter Tryz.func106, Tryz.ntmps106
 go_wp2_with fail; refine HX.out.mono ?_; rintro e w1 ⟨a, b, m, rfl, hc, hb⟩; have HC := ah hc; have HB := ah hb; clear hc hb; go_wp2_with fail
 go_ret3
 exact ⟨_, _, _, rfl, HC.out, HB.out⟩
end
structure Kt (w w' : World) : Prop where
 others : KeepsOthers w w'
 same : ∀ (k : Nat) (cs : Array Value) (t : TypeId) (fr : Nat × Nat), t ≠ 5 -> t ≠ 219 -> w.heap[k]? = some (.cells cs t fr) -> w'.heap[k]? = some (.cells cs t fr)
theorem Kt.refl (w : World) : Kt w w := ⟨KeepsOthers.refl w, fun _ _ _ _ _ _ h => h⟩
theorem Kt.trans {a b c : World} (h : Kt a b) (k : Kt b c) : Kt a c := ⟨h.others.trans k.others, fun i cs t fr h5 h9 hi => k.same i cs t fr h5 h9 (h.same i cs t fr h5 h9 hi)⟩
theorem Kt.alloc (w : World) (o : Obj) : Kt w (w.alloc o) := ⟨KeepsOthers.alloc w o, fun k _ _ _ _ _ h => (Below.heap_alloc w o k (Array.getElem?_eq_some_iff.1 h).1).trans h⟩
theorem Kt.setCell {w : World} {b i : Nat} {cs : Array Value} {fr : Nat × Nat} (hb : w.heap[b]? = some (.cells cs 219 fr)) (v : Value) : Kt w (w.setCell ⟨b, i, none⟩ v) :=
 ⟨KeepsOthers.setCell _ _ _, fun k cs' t fr' _ h9 h => (Below.heap_setCell w ⟨b, i, none⟩ v k (fun e => by
   have e' : k = b := e; rw [e', hb] at h; simp only [Option.some.injEq, Obj.cells.injEq] at h; exact h9 h.2.1.symm)).trans h⟩
theorem Kt.grown {w w' : World} {base size n : Nat} {v : Value} {xs : List Value} (hown : w.ownsRow base 5 size v n xs) (hg : w.grownBy w' v.ownBlock) : Kt w w' := by
 have key : ∀ j, v.ownBlock = some j -> ∃ cur, w.heap[j]? = some (.cells cur 5 (0, 0)) := by
  intro j hj; rcases hown.2 with ⟨hv, _⟩ | ⟨g, cap, cur, hv, _, hh, _⟩
  . rw [hv] at hj; cases hj
  . rw [hv] at hj; cases hj; exact ⟨cur, hh⟩
 refine ⟨KeepsOthers.of_grownBy hg fun j o hj ho => ?_, fun k cs t fr h5 _ h => ?_⟩
 . obtain ⟨cur, hc⟩ := key j hj
   rw [hc] at ho; cases ho; rfl
 . refine (hg.block k (Array.getElem?_eq_some_iff.1 h).1 (fun e => ?_)).trans h
   obtain ⟨cur, hc⟩ := key k e.symm; rw [hc] at h; simp only [Option.some.injEq, Obj.cells.injEq] at h; exact h5 h.2.1.symm
theorem infoByte : (Tryz.prog.info? 5).map (fun i => (i.zero, i.size, i.bytes)) = some (some (.int .u8 0), 1, 1) := by kernel_rfl
theorem BU (b : Nat) (w : World) (h0 : w.cell? ⟨b, 0, none⟩ = some (.pointer (some ⟨b, 0, none⟩))) :
  Calls Tryz.prog 183 #[.pointer (some ⟨b, 0, none⟩)] w fun e w' => e = .returned (.tuple #[]) /\ w' = w := by
 obtain ⟨j, hj, _⟩ := Option.map_eq_some_iff.1 Tryz.Builder_Extra_169.sizeBuilder
 go_enter Tryz.func183, Tryz.ntmps183
 go_wp2
 rw [Lib.run_neq_ptr_same w _ Tryz.underlying217 hj]
 go_wp2
 go_end0
 exact ⟨rfl, rfl⟩
theorem AO (b : Nat) (w : World) (h0 : w.cell? ⟨b, 0, none⟩ = some (.pointer none)) (hsh : w.shape? b = some (219, 2)) (hfz : w.frozen? ⟨b, 0, none⟩ = false) :
  Calls Tryz.prog 183 #[.pointer (some ⟨b, 0, none⟩)] w fun e w' => e = .returned (.tuple #[]) /\ w' = w.setCell ⟨b, 0, none⟩ (.pointer (some ⟨b, 0, none⟩)) := by
 obtain ⟨j, hj, hjs⟩ := Option.map_eq_some_iff.1 Tryz.Builder_Extra_169.sizeBuilder
 go_enter Tryz.func183, Tryz.ntmps183
 go_wp2
 rw [Lib.run_to_unsafe w ⟨b, 0, none⟩ Tryz.underlying217 Tryz.underlying240 hj (by rw [hjs]; decide) hsh (Nat.zero_lt_succ 1)]; simp only [Result.andThen]; rw [Oper.upon_value]
 go_wp2
 rw [run_callFunc_extern Tryz.func189 (by kernel_rfl) (by kernel_rfl) (by kernel_rfl) (e := Extern.AbiNoEscape.same) (by kernel_rfl)]; rw [Lib.run_noEscape]; simp only [Result.andThen]; rw [Oper.upon_value]
 go_wp2
 rw [Lib.run_from_unsafe w ⟨b, 0, none⟩ Tryz.underlying240 Tryz.underlying217 hj hsh Tryz.Builder_Extra_169.liesBuilder]; simp only [Result.andThen]; rw [Oper.upon_value]
 go_wp2
 go_end0
 exact ⟨rfl, rfl⟩
theorem uN (B b : Nat) (bs : List Value) (w : World) (h : Lib.IsBuilder 219 5 B b bs w) :
  Calls Tryz.prog 183 #[.pointer (some ⟨b, 0, none⟩)] w fun e w' => e = .returned (.tuple #[]) /\ (Lib.BuilderAt 219 5 B b (.pointer (some ⟨b, 0, none⟩)) bs w' /\ Below B w w' /\ Kt w w') := by
 rcases h with h | h
 . refine (AO b w h.cell0 h.shape h.frozen0).mono ?_
   rintro e w' ⟨rfl, rfl⟩; obtain ⟨_, v, hb, _⟩ := id h; exact ⟨rfl, h.used _, (Below.refl B w).setCell (p := ⟨b, 0, none⟩) h.1 _, Kt.setCell hb _⟩
 . refine (BU b w h.cell0).mono ?_
   rintro e w' ⟨rfl, rfl⟩; exact ⟨rfl, h, Below.refl B _, Kt.refl _⟩
theorem zl (B b : Nat) (bs : List Value) (c : Int) (w : World) (h : Lib.IsBuilder 219 5 B b bs w) (hlen : bs.length + 1 <= 140737488355328) (hBw : B <= w.heap.size) :
  Calls Tryz.prog 182 #[.pointer (some ⟨b, 0, none⟩), .int .u8 c] w fun e w' => e = .returned .nilIface /\ (Lib.BuilderAt 219 5 B b (.pointer (some ⟨b, 0, none⟩)) (bs ++ [.int .u8 c]) w' /\ Below B w w' /\ Kt w w') := by
 obtain ⟨i0, hi, hz0, hz1, hz2⟩ := info_parts infoByte
 go_enter Tryz.func182, Tryz.ntmps182
 go_wp2_with fail; refine (uN B b bs _ h).mono ?_; rintro e w1 ⟨rfl, h1, hb1, hk1⟩; have HK1 := ah hk1; clear hk1; obtain ⟨hB, v, hbk, hown, hne⟩ := h1; have c0 : w1.cell? ⟨b, 0, none⟩ = some (.pointer (some ⟨b, 0, none⟩)) := by rw [Lib.cell_of_heap hbk]; rfl
 have c1 : w1.cell? ⟨b, 1, none⟩ = some v := by rw [Lib.cell_of_heap hbk]; rfl
 go_wp2_with (at_builtin; refine wpList_append_own _ rfl _ _ 178 rfl B 5 i0 (.int .u8 0) 1 1 Tryz.underlying178 hi hz0 hz1 hz2 rfl (by decide) _ _ _ rfl (hown.alloc _) ⟨w1.heap.size, 0, none⟩ 1 1 [.int .u8 c] rfl rfl ?c1 ?c2 ?c3 ?c4 ?c5 ?_)
 case c1 =>
  intro j u hj
  match j, hj with
  | 0, hj => simp at hj; subst hj; simp [Addr.add]
 case c2 => intro u hu; simp at hu; subst hu; rfl
 case c3 => unfold maxLen; omega
 case c4 => omega
 case c5 => have := hb1.size; simp; omega
 intro v' w2 hown' hgrow _; have HK2 : Hid (Kt w w2) := (HK1.out.trans (Kt.alloc _ _)).trans (Kt.grown (hown.alloc _) hgrow); have hlt : b < w1.heap.size := (Array.getElem?_eq_some_iff.1 hbk).1; have hb2 : w2.heap[b]? = some (.cells #[.pointer (some ⟨b, 0, none⟩), v] 219 (0, 0)) := by
  rw [hgrow.block b (by simp; omega) (fun e => hne e.symm), Lib.alloc_old w1 _ b hlt]; exact hbk
 have d0 : w2.cell? ⟨b, 0, none⟩ = some (.pointer (some ⟨b, 0, none⟩)) := by rw [Lib.cell_of_heap hb2]; rfl
 have d1 : w2.cell? ⟨b, 1, none⟩ = some v := by rw [Lib.cell_of_heap hb2]; rfl
 have f1 : w2.frozen? ⟨b, 1, none⟩ = false := Lib.frozen_of_heap hb2 1; obtain ⟨g, cap, rfl⟩ : ∃ g cap, v' = .slice (some ⟨g, 0, none⟩) (bs.length + 1) cap := by
  rcases hown'.2 with ⟨_, h0⟩ | ⟨g, cap, cur, hv, _⟩
  . omega
  . exact ⟨g, cap, hv⟩
 go_wp2
 go_ret
 refine ⟨rfl, ?_, ?_, HK2.out.trans (Kt.setCell hb2 _)⟩
 . exact Lib.BuilderAt.put (T := 219) (e := 5) hB hb2 (bs' := bs ++ [.int .u8 c]) (by simpa using hown') (by decide)
 . exact ((hb1.alloc (by have := hb1.size; omega) _).grown hgrow (by have := hb1.size; simp; omega) (fun k hk => (hown.lt k hk).1)).setCell (p := ⟨b, 1, none⟩) hB _
theorem yQ (B b : Nat) (bs : List Value) (s : ByteArray) (w : World) (h : Lib.IsBuilder 219 5 B b bs w) (hlen : bs.length + s.size <= 140737488355328) (hBw : B <= w.heap.size) :
  Calls Tryz.prog 165 #[.pointer (some ⟨b, 0, none⟩), .string s] w fun e w' => e = .returned (.tuple #[.int .i64 s.size, .nilIface]) /\ (Lib.BuilderAt 219 5 B b (.pointer (some ⟨b, 0, none⟩)) (bs ++ Lib.strCells s) w' /\ Below B w w' /\ Kt w w') := by
 obtain ⟨i0, hi, hz0, hz1, hz2⟩ := info_parts infoByte
 go_enter Tryz.func165, Tryz.ntmps165
 go_wp2_with fail; refine (uN B b bs _ h).mono ?_; rintro e w1 ⟨rfl, h1, hb1, hk1⟩; have HK1 := ah hk1; clear hk1; obtain ⟨hB, v, hbk, hown, hne⟩ := h1; have c0 : w1.cell? ⟨b, 0, none⟩ = some (.pointer (some ⟨b, 0, none⟩)) := by rw [Lib.cell_of_heap hbk]; rfl
 have c1 : w1.cell? ⟨b, 1, none⟩ = some v := by rw [Lib.cell_of_heap hbk]; rfl
 go_wp2_with (at_builtin; refine Lib.wpList_append_own_string _ rfl _ _ 178 9 rfl B 5 i0 Tryz.underlying178 Tryz.underlying9 hi hz0 hz1 hz2 _ _ _ rfl hown s rfl ?c3 ?c4 ?c5 ?_)
 case c3 => unfold maxLen; omega
 case c4 => omega
 case c5 => have := hb1.size; omega
 intro v' w2 hown' hgrow _; have HK2 : Hid (Kt w w2) := HK1.out.trans (Kt.grown hown hgrow); have hlt : b < w1.heap.size := (Array.getElem?_eq_some_iff.1 hbk).1; have hb2 : w2.heap[b]? = some (.cells #[.pointer (some ⟨b, 0, none⟩), v] 219 (0, 0)) := by
  rw [hgrow.block b hlt (fun e => hne e.symm)]; exact hbk
 have d0 : w2.cell? ⟨b, 0, none⟩ = some (.pointer (some ⟨b, 0, none⟩)) := by rw [Lib.cell_of_heap hb2]; rfl
 have d1 : w2.cell? ⟨b, 1, none⟩ = some v := by rw [Lib.cell_of_heap hb2]; rfl
 have f1 : w2.frozen? ⟨b, 1, none⟩ = false := Lib.frozen_of_heap hb2 1; obtain ⟨ao, n', cap, rfl⟩ : ∃ ao n' cap, v' = .slice ao n' cap := by
  rcases hown'.2 with ⟨hv, _⟩ | ⟨g, cap, cur, hv, _⟩
  . exact ⟨_, _, _, hv⟩
  . exact ⟨_, _, _, hv⟩
 go_wp2
 go_ret2
 refine ⟨rfl, ?_, ?_, HK2.out.trans (Kt.setCell hb2 _)⟩
 . exact Lib.BuilderAt.put (T := 219) (e := 5) hB hb2 (bs' := bs ++ Lib.strCells s) (by simpa [Lib.strCells_length] using hown') (by decide)
 . exact (hb1.grown hgrow (by have := hb1.size; omega) (fun k hk => (hown.lt k hk).1)).setCell (p := ⟨b, 1, none⟩) hB _
end Go.Proofs.YtlcecobipgmafaaGreatDoor
