/-
  Lemmas: Graphs of labels, in plain Lean: what can be reached in one or more steps, breadth first search as the program makes it, and least numbers of steps. No program in sight. Targets of a graph, in plain Lean: the first target with a label, the labels on which one depends, and how targets lie in memory. The arguments that come in (law39): files, strings, targets, graphs, read off the form's own reading. What the rows share: an argument that reads as before, the last step, the witness's world. DERIVED: THE SHELF's CONTRACTS AT THIS DUMP, IN PLAIN WORDS (tools/lay-plain.mjs out of 'TryzSfl.lean', which tools/lay-shelf.mjs wrote): THE SAME DECLARATIONS UNDER THE SAME NAMES: 'import', 'namespace', 'open', 'def', 'theorem' AND NOTHING ELSE: no command of the shelf's: FOR A HAND-IN. Each laying: the table of numbers ('.._ren') and one theorem, a field a fact of the dump's own or the kernel's comparison; each contract: ONE APPLICATION. buildfile.Check on one rule. Maps with strings as keys and whatever values as elements (structs with slices, slices that are appended to): what a key has, as a plain function. Over any program. graph.index: targets by their labels; the first one with a label counts. buildfile's names, and Check on any rules. append onto a slice that is the call's own, or empty without capacity. A slice from which elements are taken in front and to which elements are appended: it owns its row from its own offset on. Over any program.
-/
import Derived.ProofKit
import Derived.OpenShut
import Derived.Deep.Slices
import Derived.Lib.SmallJoins
import Derived.Test.YtddlohbhchjjhaaGreatDoorCards
import Derived.Test.YtddlohbhchjjhaaGreatDoorTie
import Derived.Deep.DeepHandedRow
import Derived.Lib.LaidTab
import Derived.Lib.LaidIn
import Derived.Shelf.SlSortCmp.WholeK
import Derived.Shelf.SlSortCmp.NoneTotal
import Derived.Ground.SlsfProg
import Derived.Ground.NamesProg
import Derived.Test.YtddlohbhchjjhaaGreatDoorProg
import Derived.Maps.RangeWalk
import Derived.ArgAppend
import Derived.Test.YtddlohbhchjjhaaGreatDoorU1

namespace Go.Proofs.YtddlohbhchjjhaaGreatDoor

section
variable {α : Type} (nx : α → List α)
def Stp : Nat → α → α → Prop
  | 0, a, b => b ∈ nx a
  | n + 1, a, b => ∃ c, Stp n a c ∧ b ∈ nx c
def Rch (a b : α) : Prop := ∃ n, Stp nx n a b
variable {nx}
theorem Rch.one {a b : α} (h : b ∈ nx a) : Rch nx a b := ⟨0, h⟩
theorem Rch.snoc {a b c : α} (h : Rch nx a b) (hc : c ∈ nx b) : Rch nx a c := by
  obtain ⟨n, hn⟩ := h; exact ⟨n + 1, b, hn, hc⟩
theorem Stp.cons : ∀ {n : Nat} {a b c : α}, b ∈ nx a → Stp nx n b c → Stp nx (n + 1) a c
  | 0, _, b, _, h, hc => ⟨b, h, hc⟩
  | _ + 1, _, _, _, h, ⟨d, hd, hc⟩ => ⟨d, Stp.cons h hd, hc⟩
theorem Stp.uncons : ∀ {n : Nat} {a c : α}, Stp nx (n + 1) a c → ∃ b, b ∈ nx a ∧ Stp nx n b c
  | 0, _, _, ⟨b, hb, hc⟩ => ⟨b, hb, hc⟩
  | _ + 1, _, _, ⟨d, hd, hc⟩ => by
    obtain ⟨b, hb, hbd⟩ := Stp.uncons hd
    exact ⟨b, hb, d, hbd, hc⟩
theorem Stp.mem {n : Nat} {a b : α} {u : List α} (hu : ∀ x, ∀ y ∈ nx x, y ∈ u) (h : Stp nx n a b) : b ∈ u := by
  cases n with
  | zero => exact hu _ _ h
  | succ n => obtain ⟨c, _, hb⟩ := h; exact hu _ _ hb

/-! ### the search -/
structure Srch (nx : α → List α) (s : α) (met : List α) (todo : List α) : Prop where
  nodup : met.Nodup
  sound : ∀ x ∈ met, Rch nx s x
  queue : ∀ x ∈ todo, x = s ∨ x ∈ met
  /-- whatever has been met and is not in the queue has been looked at -/
  done : ∀ x, (x = s ∨ x ∈ met) → x ∈ todo ∨ ∀ y ∈ nx x, y ∈ met
theorem Srch.start (nx : α → List α) (s : α) : Srch nx s [] [s] :=
  ⟨List.nodup_nil, (fun x h => by cases h), fun x h => .inl (List.mem_singleton.1 h), fun x h => by
    rcases h with rfl | h
    · exact .inl (by simp)
    · cases h⟩
theorem Srch.end_ {s : α} {met : List α} (h : Srch nx s met []) (x : α) : x ∈ met ↔ Rch nx s x := by
  refine ⟨h.sound x, ?_⟩
  rintro ⟨n, hn⟩
  induction n generalizing x with
  | zero =>
    rcases h.done s (.inl rfl) with h' | h'
    · cases h'
    · exact h' x hn
  | succ n ih =>
    obtain ⟨c, hc, hx⟩ := hn
    rcases h.done c (.inr (ih c hc)) with h' | h'
    · cases h'
    · exact h' x hx
structure Look (nx : α → List α) (s : α) (met todo : List α) (p : α) (ys : List α) : Prop where
  nodup : met.Nodup
  sound : ∀ x ∈ met, Rch nx s x
  queue : ∀ x ∈ todo, x = s ∨ x ∈ met
  here : p = s ∨ p ∈ met
  part : ∀ y ∈ nx p, y ∈ met ∨ y ∈ ys
  sub : ∀ y ∈ ys, y ∈ nx p
  done : ∀ x, (x = s ∨ x ∈ met) → x = p ∨ x ∈ todo ∨ ∀ y ∈ nx x, y ∈ met
theorem Srch.look {s p : α} {met todo : List α} (h : Srch nx s met (p :: todo)) : Look nx s met todo p (nx p) :=
  ⟨h.nodup, h.sound, fun x hx => h.queue x (by simp [hx]), h.queue p (by simp), fun y hy => .inr hy, fun y hy => hy, fun x hx => by
    rcases h.done x hx with h' | h'
    · rcases List.mem_cons.1 h' with e | h'
      · exact .inl e
      · exact .inr (.inl h')
    · exact .inr (.inr h')⟩
theorem Look.skip {s p y : α} {met todo ys : List α} (h : Look nx s met todo p (y :: ys)) (hy : y ∈ met) : Look nx s met todo p ys :=
  ⟨h.nodup, h.sound, h.queue, h.here, fun z hz => by
    rcases h.part z hz with h' | h'
    · exact .inl h'
    · rcases List.mem_cons.1 h' with rfl | h'
      · exact .inl hy
      · exact .inr h', fun z hz => h.sub z (by simp [hz]), h.done⟩
theorem Look.take {s p y : α} {met todo ys : List α} (h : Look nx s met todo p (y :: ys)) (hy : y ∉ met) : Look nx s (met ++ [y]) (todo ++ [y]) p ys := by
  have hr : Rch nx s y := by
    have hp := h.sub y (by simp)
    rcases h.here with rfl | hm
    · exact Rch.one hp
    · exact (h.sound p hm).snoc hp
  refine ⟨?_, fun x hx => ?_, fun x hx => ?_, ?_, fun z hz => ?_, fun z hz => h.sub z (by simp [hz]), fun x hx => ?_⟩
  · rw [List.nodup_append]
    exact ⟨h.nodup, by simp, fun a ha b hb => by rw [List.mem_singleton.1 hb]; rintro rfl; exact hy ha⟩
  · rcases List.mem_append.1 hx with hx | hx
    · exact h.sound x hx
    · rw [List.mem_singleton.1 hx]; exact hr
  · rcases List.mem_append.1 hx with hx | hx
    · rcases h.queue x hx with e | e
      · exact .inl e
      · exact .inr (by simp [e])
    · exact .inr (by simp [List.mem_singleton.1 hx])
  · rcases h.here with e | e
    · exact .inl e
    · exact .inr (by simp [e])
  · rcases h.part z hz with h' | h'
    · exact .inl (by simp [h'])
    · rcases List.mem_cons.1 h' with rfl | h'
      · exact .inl (by simp)
      · exact .inr h'
  · have hx' : (x = s ∨ x ∈ met) ∨ x = y := by
      rcases hx with e | e
      · exact .inl (.inl e)
      · rcases List.mem_append.1 e with e | e
        · exact .inl (.inr e)
        · exact .inr (List.mem_singleton.1 e)
    rcases hx' with hx' | rfl
    · rcases h.done x hx' with e | e | e
      · exact .inl e
      · exact .inr (.inl (by simp [e]))
      · exact .inr (.inr fun z hz => by simp [e z hz])
    · exact .inr (.inl (by simp))
theorem Look.close {s p : α} {met todo : List α} (h : Look nx s met todo p []) : Srch nx s met todo :=
  ⟨h.nodup, h.sound, h.queue, fun x hx => by
    rcases h.done x hx with rfl | e | e
    · exact .inr fun y hy => (h.part y hy).resolve_right (by simp)
    · exact .inl e
    · exact .inr e⟩
theorem Srch.pass {s p : α} {met todo : List α} (h : Srch nx s met (p :: todo)) (hp : ∀ y ∈ nx p, y ∈ met) : Srch nx s met todo :=
  ⟨h.nodup, h.sound, fun x hx => h.queue x (by simp [hx]), fun x hx => by
    rcases h.done x hx with e | e
    · rcases List.mem_cons.1 e with rfl | e
      · exact .inr hp
      · exact .inl e
    · exact .inr e⟩

/-! ### least numbers of steps -/
def Dst (nx : α → List α) (k : Nat) (a b : α) : Prop := Stp nx k a b ∧ ∀ m, m < k → ¬ Stp nx m a b
theorem Dst.next {k : Nat} {a b : α} (h : Dst nx (k + 1) a b) : ∃ c, c ∈ nx a ∧ Dst nx k c b := by
  obtain ⟨c, hc, hs⟩ := Stp.uncons h.1
  exact ⟨c, hc, hs, fun m hm hn => h.2 (m + 1) (by omega) (Stp.cons hc hn)⟩
theorem Dst.uniq {j k : Nat} {a b : α} (h : Dst nx j a b) (h' : Dst nx k a b) : j = k := by
  rcases Nat.lt_trichotomy j k with e | e | e
  · exact absurd h.1 (h'.2 j e)
  · exact e
  · exact absurd h'.1 (h.2 k e)
theorem Dst.of_rch {a b : α} (h : Rch nx a b) : ∃ k, Dst nx k a b := by
  obtain ⟨n, hn⟩ := h
  induction n using Nat.strongRecOn with
  | _ n ih =>
    by_cases hm : ∃ m, m < n ∧ Stp nx m a b
    · obtain ⟨m, hl, hs⟩ := hm
      exact ih m hl hs
    · exact ⟨n, hn, fun m hl hs => hm ⟨m, hl, hs⟩⟩
structure Lvl (nx : α → List α) (a b : α) (n : Nat) (seen now : List α) : Prop where
  sound : ∀ x ∈ seen, Rch nx a x
  here : ∀ x ∈ now, (n = 0 ∧ x = a) ∨ ∃ m, n = m + 1 ∧ Stp nx m a x
  all : ∀ m, m < n → ∀ x, Stp nx m a x → x ∈ seen
  not : b ∉ seen
  queue : ∀ x ∈ now, x = a ∨ x ∈ seen
  done : ∀ x, (x = a ∨ x ∈ seen) → x ∈ now ∨ ∀ y ∈ nx x, y ∈ seen
theorem Lvl.start (nx : α → List α) (a b : α) : Lvl nx a b 0 [] [a] :=
  ⟨(fun x h => by cases h), fun x h => .inl ⟨rfl, List.mem_singleton.1 h⟩, fun m h => absurd h (by omega), by simp, fun x h => .inl (List.mem_singleton.1 h), fun x h => by
    rcases h with rfl | h
    · exact .inl (by simp)
    · cases h⟩
theorem Lvl.none {a b : α} {n : Nat} {seen : List α} (h : Lvl nx a b n seen []) : ¬ Rch nx a b := by
  rintro ⟨m, hm⟩
  have key : ∀ m x, Stp nx m a x → x ∈ seen := by
    intro m
    induction m with
    | zero =>
      intro x hx
      rcases h.done a (.inl rfl) with e | e
      · cases e
      · exact e x hx
    | succ m ih =>
      rintro x ⟨c, hc, hx⟩
      rcases h.done c (.inr (ih c hc)) with e | e
      · cases e
      · exact e x hx
  exact h.not (key m b hm)
structure Mid (nx : α → List α) (a b : α) (n : Nat) (seen next : List α) (p : α) (ys xs : List α) : Prop where
  sound : ∀ x ∈ seen, Rch nx a x
  here : ∀ x, x = p ∨ x ∈ xs → (n = 0 ∧ x = a) ∨ ∃ m, n = m + 1 ∧ Stp nx m a x
  fresh : ∀ x ∈ next, Dst nx n a x
  all : ∀ m, m < n → ∀ x, Stp nx m a x → x ∈ seen
  not : b ∉ seen
  queue : ∀ x ∈ next, x ∈ seen
  old : ∀ x, x = p ∨ x ∈ xs → x = a ∨ x ∈ seen
  part : ∀ y ∈ nx p, y ∈ seen ∨ y ∈ ys
  sub : ∀ y ∈ ys, y ∈ nx p
  done : ∀ x, (x = a ∨ x ∈ seen) → x = p ∨ x ∈ xs ∨ x ∈ next ∨ ∀ y ∈ nx x, y ∈ seen
theorem Lvl.mid {a b p : α} {n : Nat} {seen xs : List α} (h : Lvl nx a b n seen (p :: xs)) : Mid nx a b n seen [] p (nx p) xs :=
  ⟨h.sound, fun x hx => h.here x (by simpa using hx), (fun x hx => by cases hx), h.all, h.not, (fun x hx => by cases hx), fun x hx => h.queue x (by simpa using hx), fun y hy => .inr hy, fun y hy => hy, fun x hx => by
    rcases h.done x hx with e | e
    · rcases List.mem_cons.1 e with e | e
      · exact .inl e
      · exact .inr (.inl e)
    · exact .inr (.inr (.inr e))⟩
theorem Mid.step {a b p y : α} {n : Nat} {seen next ys xs : List α} (h : Mid nx a b n seen next p (y :: ys) xs) : Stp nx n a y := by
  have hy := h.sub y (by simp)
  rcases h.here p (.inl rfl) with ⟨rfl, rfl⟩ | ⟨m, rfl, hm⟩
  · exact hy
  · exact ⟨p, hm, hy⟩
theorem Mid.found {a b p : α} {n : Nat} {seen next ys xs : List α} (h : Mid nx a b n seen next p (b :: ys) xs) : Dst nx n a b := ⟨h.step, fun m hm hs => h.not (h.all m hm b hs)⟩
theorem Mid.skip {a b p y : α} {n : Nat} {seen next ys xs : List α} (h : Mid nx a b n seen next p (y :: ys) xs) (hy : y ∈ seen) : Mid nx a b n seen next p ys xs :=
  ⟨h.sound, h.here, h.fresh, h.all, h.not, h.queue, h.old, fun z hz => by
    rcases h.part z hz with e | e
    · exact .inl e
    · rcases List.mem_cons.1 e with rfl | e
      · exact .inl hy
      · exact .inr e, fun z hz => h.sub z (by simp [hz]), h.done⟩
theorem Mid.take {a b p y : α} {n : Nat} {seen seen' next ys xs : List α} (h : Mid nx a b n seen next p (y :: ys) xs) (hb : y ≠ b) (hn : y ∉ seen) (hs : ∀ x, x ∈ seen' ↔ x ∈ seen ∨ x = y) : Mid nx a b n seen' (next ++ [y]) p ys xs := by
  have hst := h.step
  refine ⟨fun x hx => ?_, h.here, fun x hx => ?_, fun m hm x hx => (hs x).2 (.inl (h.all m hm x hx)), fun hx => ?_, fun x hx => ?_, fun x hx => ?_, fun z hz => ?_, fun z hz => h.sub z (by simp [hz]), fun x hx => ?_⟩
  · rcases (hs x).1 hx with e | rfl
    · exact h.sound x e
    · exact ⟨n, hst⟩
  · rcases List.mem_append.1 hx with e | e
    · exact h.fresh x e
    · rw [List.mem_singleton.1 e]; exact ⟨hst, fun m hm hs' => hn (h.all m hm y hs')⟩
  · rcases (hs b).1 hx with e | e
    · exact h.not e
    · exact hb e.symm
  · rcases List.mem_append.1 hx with e | e
    · exact (hs x).2 (.inl (h.queue x e))
    · exact (hs x).2 (.inr (List.mem_singleton.1 e))
  · rcases h.old x hx with e | e
    · exact .inl e
    · exact .inr ((hs x).2 (.inl e))
  · rcases h.part z hz with e | e
    · exact .inl ((hs z).2 (.inl e))
    · rcases List.mem_cons.1 e with e | e
      · exact .inl ((hs z).2 (.inr e))
      · exact .inr e
  · have hx' : (x = a ∨ x ∈ seen) ∨ x = y := by
      rcases hx with e | e
      · exact .inl (.inl e)
      · rcases (hs x).1 e with e | e
        · exact .inl (.inr e)
        · exact .inr e
    rcases hx' with hx' | rfl
    · rcases h.done x hx' with e | e | e | e
      · exact .inl e
      · exact .inr (.inl e)
      · exact .inr (.inr (.inl (by simp [e])))
      · exact .inr (.inr (.inr fun z hz => (hs z).2 (.inl (e z hz))))
    · exact .inr (.inr (.inl (by simp)))
theorem Mid.on {a b p q : α} {n : Nat} {seen next xs : List α} (h : Mid nx a b n seen next p [] (q :: xs)) : Mid nx a b n seen next q (nx q) xs :=
  ⟨h.sound, fun x hx => h.here x (.inr (by simpa using hx)), h.fresh, h.all, h.not, h.queue, fun x hx => h.old x (.inr (by simpa using hx)), fun y hy => .inr hy, fun y hy => hy, fun x hx => by
    rcases h.done x hx with rfl | e | e | e
    · exact .inr (.inr (.inr fun y hy => (h.part y hy).resolve_right (by simp)))
    · rcases List.mem_cons.1 e with e | e
      · exact .inl e
      · exact .inr (.inl e)
    · exact .inr (.inr (.inl e))
    · exact .inr (.inr (.inr e))⟩
theorem Mid.close {a b p : α} {n : Nat} {seen next : List α} (h : Mid nx a b n seen next p [] []) : Lvl nx a b (n + 1) seen next := by
  have hdone : ∀ x, (x = a ∨ x ∈ seen) → x ∈ next ∨ ∀ y ∈ nx x, y ∈ seen := fun x hx => by
    rcases h.done x hx with rfl | e | e | e
    · exact .inr fun y hy => (h.part y hy).resolve_right (by simp)
    · cases e
    · exact .inl e
    · exact .inr e
  refine ⟨h.sound, fun x hx => .inr ⟨n, rfl, (h.fresh x hx).1⟩, fun m hm x hx => ?_, h.not, fun x hx => .inr (h.queue x hx), hdone⟩
  rcases Nat.lt_or_ge m n with hl | hl
  · exact h.all m hl x hx
  · obtain rfl : m = n := by omega
    -- x is reached in n + 1 steps from one that has been seen before
    cases m with
    | zero =>
      rcases h.done a (.inl rfl) with e | e | e | e
      · exact (h.part x (e ▸ hx)).resolve_right (by simp)
      · cases e
      · have := h.here p (.inl rfl)
        rcases this with ⟨_, rfl⟩ | ⟨m, hm', _⟩
        · exact (h.part x hx).resolve_right (by simp)
        · omega
      · exact e x hx
    | succ k =>
      obtain ⟨c, hc, hx⟩ := hx
      rcases h.done c (.inr (h.all k (by omega) c hc)) with rfl | e | e | e
      · exact (h.part x hx).resolve_right (by simp)
      · cases e
      · exact absurd hc ((h.fresh c e).2 k (by omega))
      · exact e x hx
end
end Go.Proofs.YtddlohbhchjjhaaGreatDoor

namespace Go.Proofs.YtddlohbhchjjhaaGreatDoor
open Go.RowKit

structure Tg where
  lab : ByteArray
  kind : Int
  dA : Option Addr
  dn : Nat
  dc : Nat
  deps : List ByteArray
  vA : Option Addr
  vn : Nat
  vc : Nat
  vis : List ByteArray
def tgC (t : Tg) : List Value := [.string t.lab, .int .i64 t.kind, .slice t.dA t.dn t.dc, .slice t.vA t.vn t.vc]
def tgV (t : Tg) : Value := .agg #[.string t.lab, .int .i64 t.kind, .slice t.dA t.dn t.dc, .slice t.vA t.vn t.vc]
theorem tgC_len (t : Tg) : (tgC t).length = 4 := rfl
structure TgOk (w : World) (B : Nat) (t : Tg) : Prop where
  d : Sl w B 1 t.dA t.dn (strs t.deps)
  dle : t.dn ≤ t.dc
  dmax : t.dc ≤ maxLen
  v : Sl w B 1 t.vA t.vn (strs t.vis)
  vle : t.vn ≤ t.vc
  vmax : t.vc ≤ maxLen
  ls : t.lab.size ≤ maxLen
  ds : ∀ s ∈ t.deps, s.size ≤ maxLen
  vs : ∀ s ∈ t.vis, s.size ≤ maxLen
theorem TgOk.below {w w' : World} {B B' : Nat} {t : Tg} (h : TgOk w B t) (hb : Below B' w w') (hB : B ≤ B') : TgOk w' B t :=
  ⟨h.d.below hb hB, h.dle, h.dmax, h.v.below hb hB, h.vle, h.vmax, h.ls, h.ds, h.vs⟩
theorem TgOk.dlen {w : World} {B : Nat} {t : Tg} (h : TgOk w B t) : t.deps.length = t.dn := by
  have := h.d.1; rw [strs_len] at this; omega
theorem TgOk.vlen {w : World} {B : Nat} {t : Tg} (h : TgOk w B t) : t.vis.length = t.vn := by
  have := h.v.1; rw [strs_len] at this; omega

def findT : List Tg → ByteArray → Option Tg
  | [], _ => none
  | t :: ts, s => if t.lab = s then some t else findT ts s
def isT (ts : List Tg) (s : ByteArray) : Bool := (findT ts s).isSome
def nxT (ts : List Tg) (s : ByteArray) : List ByteArray := match findT ts s with
  | none => []
  | some t => t.deps.filter (isT ts)
theorem findT_lab : ∀ {ts : List Tg} {s : ByteArray} {t : Tg}, findT ts s = some t → t.lab = s ∧ t ∈ ts
  | [], _, _, h => by cases h
  | r :: ts, s, t, h => by
    simp only [findT] at h
    by_cases e : r.lab = s
    · rw [if_pos e] at h; cases h; exact ⟨e, by simp⟩
    · rw [if_neg e] at h
      have := findT_lab h
      exact ⟨this.1, by simp [this.2]⟩
theorem isT_iff : ∀ (ts : List Tg) (s : ByteArray), isT ts s = true ↔ s ∈ ts.map Tg.lab
  | [], s => by simp [isT, findT]
  | r :: ts, s => by
    have ih := isT_iff ts s
    unfold isT at ih ⊢
    simp only [findT, List.map_cons, List.mem_cons]
    by_cases e : r.lab = s
    · simp [e]
    · rw [if_neg e, ih]
      constructor
      · exact .inr
      · rintro (h | h)
        · exact absurd h.symm e
        · exact h
theorem findT_snoc : ∀ (ts : List Tg) (t : Tg) (s : ByteArray), findT (ts ++ [t]) s = match findT ts s with | some x => some x | none => if t.lab = s then some t else none
  | [], t, s => by simp [findT]
  | r :: ts, t, s => by
    simp only [List.cons_append, findT]
    by_cases e : r.lab = s
    · simp [e]
    · rw [if_neg e, if_neg e, findT_snoc ts t s]
theorem nxT_mem {ts : List Tg} {s x : ByteArray} (h : x ∈ nxT ts s) : isT ts x = true ∧ isT ts s = true := by
  unfold nxT at h
  cases hf : findT ts s with
  | none => rw [hf] at h; cases h
  | some t =>
    rw [hf] at h
    exact ⟨(List.mem_filter.1 h).2, by unfold isT; rw [hf]; rfl⟩
theorem rch_isT {ts : List Tg} {s x : ByteArray} (h : Rch (nxT ts) s x) : isT ts x = true := by
  obtain ⟨n, hn⟩ := h
  cases n with
  | zero => exact (nxT_mem hn).1
  | succ n => obtain ⟨c, _, hx⟩ := hn; exact (nxT_mem hx).1
end Go.Proofs.YtddlohbhchjjhaaGreatDoor

namespace Go.Proofs.YtddlohbhchjjhaaGreatDoor
open Go.ChangeShapes Go.WideShapes Go.ChangeAt Go.RowKit Go.Joins Go.Deep

theorem cellsStr : Tryz.prog.cellsOf 9 = 1 := by kernel_rfl
theorem cellsTg : Tryz.prog.cellsOf 35 = 4 := by kernel_rfl
theorem cellsInt : Tryz.prog.cellsOf 3 = 1 := by kernel_rfl
theorem cellsStrs : Tryz.prog.cellsOf 33 = 1 := by kernel_rfl
theorem cellsTgs : Tryz.prog.cellsOf 25 = 1 := by kernel_rfl
theorem cellsGr : Tryz.prog.cellsOf 27 = 1 := by kernel_rfl

theorem list_of {α : Type} {p : Nat → α → Prop} : ∀ (n : Nat), (∀ i, i < n → ∃ x, p i x) → ∃ xs : List α, xs.length = n ∧ ∀ i x, xs[i]? = some x → p i x
  | 0, _ => ⟨[], rfl, fun i x h => by simp at h⟩
  | n + 1, h => by
    obtain ⟨xs, hl, hp⟩ := list_of n (fun i hi => h i (by omega))
    obtain ⟨y, hy⟩ := h n (by omega)
    refine ⟨xs ++ [y], by simp [hl], fun i x hx => ?_⟩
    rcases Nat.lt_or_ge i xs.length with hi | hi
    · rw [List.getElem?_append_left hi] at hx; exact hp i x hx
    · rw [List.getElem?_append_right hi] at hx
      have : i - xs.length = 0 := by
        rcases Nat.eq_zero_or_pos (i - xs.length) with h0 | h0
        · exact h0
        · rw [List.getElem?_eq_none (by simp; omega)] at hx; cases hx
      rw [this] at hx
      simp at hx
      subst hx
      have : i = n := by omega
      rw [this]; exact hy

theorem len1 {α : Type} {l : List α} (h : l.length = 1) : ∃ a, l = [a] := by
  match l, h with
  | [a], _ => exact ⟨a, rfl⟩
theorem len4 {α : Type} {l : List α} (h : l.length = 4) : ∃ a b c d, l = [a, b, c, d] := by
  match l, h with
  | [a, b, c, d], _ => exact ⟨a, b, c, d, rfl⟩
theorem flat_strs (l : List ByteArray) : flat (fun s => [Value.string s]) l = strs l := by
  induction l with
  | nil => rfl
  | cons a l ih => simp only [flat, strs, List.flatMap_cons, List.map_cons] at ih ⊢; rw [ih]; rfl

section
variable {H : Type} {enc : TypeId × Value → H} {P : Program} {w : World} {base : Nat} {spare : Nat → Bool} {held : Bool} {fuel : Nat} {cs : List Value} {x : DataW H × List MemPlace}
theorem trod_slP {α : Type} {t e : TypeId} {s : Nat} {encA : α → List Value} {Q : α → Prop} (ht : P.underlying t = some (.slice e)) (hC : P.cellsOf e = s) (h0 : 0 < s) (hl : ∀ a, (encA a).length = s)
    (hel : ∀ (fuel : Nat) (cs : List Value) (x : DataW H × List MemPlace), DataW.trod enc P w base spare held fuel e cs = some x → ∃ a, cs = encA a ∧ Q a)
    (h : DataW.trod enc P w base spare held fuel t cs = some x) : ∃ A n c xs, cs = [.slice A n c] ∧ Sl w w.heap.size s A n (flat encA xs) ∧ n ≤ c ∧ c ≤ maxLen ∧ ∀ a ∈ xs, Q a := by
  rcases open_slice ht h with ⟨rfl, _⟩ | ⟨a, len, cap, m, n, D, Pl, rfl, _, hlc, hcm, hm, _, hi⟩
  · exact ⟨none, 0, 0, [], rfl, Sl.nil _ _ _ _, Nat.le_refl _, Nat.zero_le _, fun a ha => by cases ha⟩
  · have hlm : len ≤ m := by rw [hm]; split <;> omega
    obtain ⟨xs, hxl, hxs⟩ := list_of (p := fun i (y : α) => w.cells? base (a.add (i * s)) s = some (encA y) ∧ Q y) len (fun i hi' => by
      obtain ⟨cs', hc, ht'⟩ := hi i (by omega)
      obtain ⟨y, rfl, hq⟩ := hel _ _ _ ht'
      rw [hC] at hc
      exact ⟨y, hc, hq⟩)
    refine ⟨some a, len, cap, xs, rfl, ⟨by rw [flat_len hl, hxl], fun hn => ?_⟩, hlc, hcm, fun y hy => ?_⟩
    · have hcell : ∀ (k j : Nat) (y : α), xs[k]? = some y → j < s → w.cell? ((a.add (k * s)).add j) = (encA y)[j]? := fun k j y hy hj => (World.cells?_some (hxs k y hy).1).2.2 j hj
      have hx0 : xs[0]? = some (xs[0]'(by omega)) := List.getElem?_eq_getElem (by omega)
      have hsome : ∃ v, w.cell? a = some v := by
        have := hcell 0 0 _ hx0 h0
        have hg : (encA (xs[0]'(by omega)))[0]? = some ((encA (xs[0]'(by omega)))[0]'(by rw [hl]; exact h0)) := List.getElem?_eq_getElem (by rw [hl]; exact h0)
        rw [hg] at this
        simp [Addr.add] at this
        exact ⟨_, this⟩
      obtain ⟨v, hv⟩ := hsome
      have hsp := World.cell?_spot hv
      obtain ⟨b, off, sp⟩ := a
      simp only at hsp
      subst hsp
      refine ⟨b, off, rfl, ?_, fun j u hu => ?_⟩
      · unfold World.cell? at hv
        simp only at hv
        rcases Nat.lt_or_ge b w.heap.size with hb | hb
        · exact hb
        · rw [Array.getElem?_eq_none hb] at hv; cases hv
      · have hj : j < xs.length * s := by
          have := (List.getElem?_eq_some_iff.1 hu).1
          rwa [flat_len hl] at this
        have hk : j / s < xs.length := Nat.div_lt_of_lt_mul (by rwa [Nat.mul_comm] at hj)
        have hr : j % s < s := Nat.mod_lt _ h0
        have hy : xs[j / s]? = some (xs[j / s]'hk) := List.getElem?_eq_getElem hk
        have e : j / s * s + j % s = j := by rw [Nat.mul_comm]; exact Nat.div_add_mod j s
        have h1 := flat_get hl xs (j / s) (j % s) _ hy hr
        rw [e, hu] at h1
        have h2 := hcell (j / s) (j % s) _ hy hr
        rw [← h1, Go.Deep.add_add, e] at h2
        rw [← h2]
        congr 1
        unfold Addr.add
        split
        · rename_i hz; subst hz; rfl
        · rfl
    · obtain ⟨i, hi', rfl⟩ := List.getElem_of_mem hy
      exact (hxs i _ (List.getElem?_eq_getElem hi')).2
theorem trod_strsP {t s : TypeId} (ht : P.underlying t = some (.slice s)) (hs : P.underlying s = some .string) (hc : P.cellsOf s = 1) (h : DataW.trod enc P w base spare held fuel t cs = some x) :
    ∃ A n c l, cs = [.slice A n c] ∧ Sl w w.heap.size 1 A n (strs l) ∧ n ≤ c ∧ c ≤ maxLen ∧ ∀ a ∈ l, a.size ≤ maxLen := by
  obtain ⟨A, n, c, l, h1, h2, h3, h4, h5⟩ := trod_slP (encA := fun s : ByteArray => [Value.string s]) (Q := fun a => a.size ≤ maxLen) ht hc (by omega) (fun _ => rfl) (fun _ _ _ hh => by
    obtain ⟨a, ha, _, hz⟩ := DataW.trod_string hs hh
    exact ⟨a, ha, hz⟩) h
  rw [flat_strs] at h2
  exact ⟨A, n, c, l, h1, h2, h3, h4, h5⟩
theorem trod_tgP {t s i l : TypeId} {f0 f1 f2 f3 : Field} (ht : P.underlying t = some (.struct #[f0, f1, f2, f3])) (o0 : f0.offset = 0) (o1 : f1.offset = 1) (o2 : f2.offset = 2) (o3 : f3.offset = 3)
    (t0 : f0.type = s) (t1 : f1.type = i) (t2 : f2.type = l) (t3 : f3.type = l) (hs : P.underlying s = some .string) (hi : P.underlying i = some (.int .i64)) (hl : P.underlying l = some (.slice s))
    (hC : P.cellsOf t = 4) (hcs : P.cellsOf s = 1) (hci : P.cellsOf i = 1) (hcl : P.cellsOf l = 1) (h : DataW.trod enc P w base spare held fuel t cs = some x) : ∃ g : Tg, cs = tgC g ∧ TgOk w w.heap.size g := by
  obtain ⟨xs, m, _, _, hlen, hxl, hf⟩ := DataW.trod_struct ht h
  rw [hC] at hlen
  obtain ⟨c0, c1, c2, c3, rfl⟩ := len4 hlen
  obtain ⟨y0, y1, y2, y3, rfl⟩ := len4 hxl
  have h0 := hf 0 f0 rfl
  have h1 := hf 1 f1 rfl
  have h2 := hf 2 f2 rfl
  have h3 := hf 3 f3 rfl
  rw [o0, t0, hcs] at h0
  rw [o1, t1, hci] at h1
  rw [o2, t2, hcl] at h2
  rw [o3, t3, hcl] at h3
  simp at h0 h1 h2 h3
  obtain ⟨a, ha, _, hz⟩ := DataW.trod_string hs h0
  obtain ⟨k, hk, _⟩ := DataW.trod_int hi h1
  obtain ⟨A, n, c, dl, hd, d1, d2, d3, d4⟩ := trod_strsP hl hs hcs h2
  obtain ⟨A', n', c', vl, hv, v1, v2, v3, v4⟩ := trod_strsP hl hs hcs h3
  simp at ha hk hd hv
  exact ⟨⟨a, k, A, n, c, dl, A', n', c', vl⟩, by rw [ha, hk, hd, hv]; rfl, ⟨d1, d2, d3, v1, v2, v3, hz, d4, v4⟩⟩
theorem trod_grP {t l e s i m : TypeId} {f0 g0 g1 g2 g3 : Field} (ht : P.underlying t = some (.struct #[f0])) (o0 : f0.offset = 0) (t0 : f0.type = l) (hl : P.underlying l = some (.slice e)) (he : P.underlying e = some (.struct #[g0, g1, g2, g3]))
    (p0 : g0.offset = 0) (p1 : g1.offset = 1) (p2 : g2.offset = 2) (p3 : g3.offset = 3) (q0 : g0.type = s) (q1 : g1.type = i) (q2 : g2.type = m) (q3 : g3.type = m) (hs : P.underlying s = some .string) (hi : P.underlying i = some (.int .i64)) (hm : P.underlying m = some (.slice s))
    (hC : P.cellsOf t = 1) (hcl : P.cellsOf l = 1) (hce : P.cellsOf e = 4) (hcs : P.cellsOf s = 1) (hci : P.cellsOf i = 1) (hcm : P.cellsOf m = 1) (h : DataW.trod enc P w base spare held fuel t cs = some x) :
    ∃ A n c ts, cs = [.slice A n c] ∧ Sl w w.heap.size 4 A n (flat tgC ts) ∧ n ≤ c ∧ c ≤ maxLen ∧ ∀ t ∈ ts, TgOk w w.heap.size t := by
  obtain ⟨xs, _, _, _, hlen, hxl, hf⟩ := DataW.trod_struct ht h
  rw [hC] at hlen
  obtain ⟨c0, rfl⟩ := len1 hlen
  obtain ⟨y0, rfl⟩ := len1 hxl
  have h0 := hf 0 f0 rfl
  rw [o0, t0, hcl] at h0
  simp at h0
  exact trod_slP (encA := tgC) (Q := fun t => TgOk w w.heap.size t) hl hce (by omega) tgC_len (fun _ _ _ hh => trod_tgP he p0 p1 p2 p3 q0 q1 q2 q3 hs hi hm hce hcs hci hcm hh) h0
end

section
variable {H : Type} {enc : TypeId × Value → H} {W : World} {base : Nat} {v : Value} {d : DataW H} {p : List MemPlace} {r : Reach} {b0 : Nat} {sp : Nat → Bool} {held : Bool}
set_option maxRecDepth 100000 in
theorem open_graph (hv : Value.okWide Tryz.prog W r b0 27 v) (h : DataW.Trod enc Tryz.prog W base sp held 27 v d p) : ∃ A n c ts, v = .agg #[.slice A n c] ∧ Sl W W.heap.size 4 A n (flat tgC ts) ∧ n ≤ c ∧ c ≤ maxLen ∧ ∀ t ∈ ts, TgOk W W.heap.size t := by
  obtain ⟨cs, rfl, hsz⟩ := okWide_struct Tryz.underlying27 hv
  obtain ⟨fuel, hf⟩ := h
  obtain ⟨A, n, c, ts, he, k⟩ := trod_grP Tryz.underlying27 rfl rfl Tryz.underlying25 Tryz.underlying35 rfl rfl rfl rfl rfl rfl rfl rfl Tryz.underlying9 Tryz.underlying3 Tryz.underlying33 cellsGr cellsTgs cellsTg cellsStr cellsInt cellsStrs hf
  refine ⟨A, n, c, ts, ?_, k⟩
  have : cs.toList = [.slice A n c] := he
  rw [show cs = #[.slice A n c] by rw [← Array.toArray_toList (xs := cs), this]]
end
end Go.Proofs.YtddlohbhchjjhaaGreatDoor

namespace Go.Proofs.YtddlohbhchjjhaaGreatDoor
open Go.ChangeShapes Go.WideShapes Go.ChangeAt Go.RowKit Go.Joins Go.Deep

theorem own : ownKnob Tryz.prog.godebug = none := by kernel_rfl
theorem laidOut : laidOutB Tryz.prog = true := by kernel_rfl

section
variable {H : Type} {enc : TypeId × Value → H} {W : World} {v : Value} {d : DataW H} {p : List MemPlace} {sp : Nat → Bool}
theorem keep {W' : World} {t : TypeId} (hr : Tryz.prog.readableRec t = true) (hrow : t < Tryz.prog.types.size) (h : DataW.Trod enc Tryz.prog W 0 (fun _ => true) true t v d p) (hb : Below W.heap.size W W') (hlt : ∀ x ∈ p, x.block < W.heap.size) (hsp : ∀ x ∈ p, sp x.block = true) :
    DataW.Trod enc Tryz.prog W' 0 sp true t v d p :=
  WideElems.Trod_stays laidOut hr hrow h (fun x hx => hb.same (hlt x hx)) hsp
end

theorem post_below {H : Type} {enc : TypeId × Value → H} {P : Program} {f : Func} {s : ChangeSpec} {apart fresh handsOn again : Bool} {W W' : World} {args : Array Value} {v : Value} {ds gs : List (DataW H)} {before pa pv : List MemPlace}
    (hW : DataW.Whole enc P f.params.toList s.vars apart W args.toList ds gs before)
    (hres : ∀ (b : Nat) (sp : Nat → Bool) (hd : Bool), DataW.TrodAll enc P W' b sp hd f.resultTypes.toList (v.resultList f.resultTypes.size) (s.fn H (ds ++ gs)).results [])
    (hargs : ∀ sp : Nat → Bool, (∀ p ∈ before, sp p.block = true) → DataW.TrodAll enc P W' 0 sp true f.params.toList args.toList (s.fn H (ds ++ gs)).args pa)
    (hvars : ∀ sp : Nat → Bool, (∀ p ∈ before, sp p.block = true) → DataW.TrodVars enc P W' sp s.vars (s.fn H (ds ++ gs)).vars pv)
    (hps : before = pa ++ pv) (hb : Below W.heap.size W W')
    (hok : ∀ (j : Nat) (t : TypeId) (r : Value), f.resultTypes[j]? = some t → (v.resultList f.resultTypes.size)[j]? = some r → Value.okWide P W' .any 0 t r) :
    s.post enc P f apart fresh handsOn again W args v W' := by
  have hlt : ∀ p ∈ before, p.block < W.heap.size := fun p hp => hW.lt p hp
  have hold : ∀ p ∈ before, (fun b => decide (b < W.heap.size)) p.block = true := fun p hp => by simpa using hlt p hp
  refine ⟨ds, gs, before, [], pa, pv, hW, hres _ _ _, hargs _ hold, hvars _ hold, World.keptBut_mono (fun p hp => ⟨hp, ?_⟩) (hb.frame (· ∈ before)), fun _ => ?_⟩
  · rw [hps, List.mem_append] at hp
    exact Or.inr hp
  · obtain ⟨_, _, _, _, _, hz, hn⟩ := hW
    refine ⟨hok, _, _, ([] ++ pa) ++ pv, ⟨[] ++ pa, pv, trodAll_append (hargs _ (fun _ _ => rfl)) (hres _ _ _), hvars _ (fun _ _ => rfl), rfl, ?_, ?_⟩, ?_⟩
    · intro b off hp
      have hin : MemPlace.cell b off ∈ before := by rw [hps]; simpa using hp
      rw [hb.frozen (hlt _ hin)]
      exact hz b off hin
    · intro ha
      have := hn ha
      rw [hps] at this
      simpa using this
    · intro p hp _
      rw [hps]
      simpa using hp

noncomputable def laidWorld (os : Os) : World :=
  let w0 := World.holding Tryz.prog os ⟨#[], #[], []⟩
  let put (h : Array Obj) (g : Nat) (cs : Array Value) : Array Obj := h.modify g fun
    | .cells _ t frozen => .cells cs t frozen
    | o => o
  let h1 := put w0.heap 1 (Go.Pinned.utf8FirstZ.map fun (z : Nat) => Value.int .u8 (z : Int)).toArray
  let h2 := put h1 2 (([128, 191, 160, 191, 128, 159, 144, 191, 128, 143].map fun (z : Int) => Value.int .u8 z) ++ List.replicate 22 (Value.int .u8 0)).toArray
  { w0 with heap := h2 }
set_option maxRecDepth 100000 in
theorem laid_met (os : Os) (args : Array Value) : laidMet Tryz.prog [("unicode/utf8.acceptRanges", Rows.laid_unicode_utf8_acceptRanges), ("unicode/utf8.first", Rows.laid_unicode_utf8_first)] ((laidWorld os).forCall (fun _ _ => 0) ⟨#[], args, []⟩).memory :=
  (LaidIn.of_run (l := [("unicode/utf8.acceptRanges", Rows.laid_unicode_utf8_acceptRanges), ("unicode/utf8.first", Rows.laid_unicode_utf8_first)]) [2, 1] 8 (by kernel_rfl) (by kernel_rfl) (by kernel_rfl) (by kernel_rfl)).met
end Go.Proofs.YtddlohbhchjjhaaGreatDoor

namespace Go.Proofs
open Go.Shelf
def Tryz.sortTgt_ren : Go.Shelf.Ren := ⟨fun | 6 => 50 | 15 => 86 | 14 => 96 | 28 => 127 | 29 => 128 | 20 => 143 | 21 => 144 | 22 => 145 | 23 => 146 | 24 => 147 | 25 => 148 | 26 => 149 | 27 => 150 | 46 => 192 | 47 => 171 | 48 => 172 | 49 => 193 | 50 => 194 | 57 => 227 | n => n, fun | 22 => 25 | 24 => 35 | 25 => 72 | 3 => 3 | 39 => 117 | 0 => 0 | 53 => 155 | 55 => 120 | 4 => 4 | 46 => 149 | 45 => 148 | 50 => 90 | 5 => 5 | 9 => 9 | 66 => 193 | 70 => 197 | 76 => 229 | 77 => 230 | n => n, fun | n => n⟩
theorem Tryz.sortTgt : Go.Proofs.SlLaysF0.n6 Tryz.prog Tryz.sortTgt_ren := {
  mixed := by kernel_rfl
  f6 := ⟨Tryz.f50.name, by decide, Tryz.func50.trans (congrArg some (by kernel_rfl))⟩
  f14 := ⟨Tryz.f96.name, by decide, Tryz.func96.trans (congrArg some (by kernel_rfl))⟩
  f15 := Tryz.func86.trans (congrArg some (by kernel_rfl))
  f20 := ⟨Tryz.f143.name, by decide, Tryz.func143.trans (congrArg some (by kernel_rfl))⟩
  f21 := ⟨Tryz.f144.name, by decide, Tryz.func144.trans (congrArg some (by kernel_rfl))⟩
  f22 := ⟨Tryz.f145.name, by decide, Tryz.func145.trans (congrArg some (by kernel_rfl))⟩
  f23 := ⟨Tryz.f146.name, by decide, Tryz.func146.trans (congrArg some (by kernel_rfl))⟩
  f24 := ⟨Tryz.f147.name, by decide, Tryz.func147.trans (congrArg some (by kernel_rfl))⟩
  f25 := ⟨Tryz.f148.name, by decide, Tryz.func148.trans (congrArg some (by kernel_rfl))⟩
  f26 := ⟨Tryz.f149.name, by decide, Tryz.func149.trans (congrArg some (by kernel_rfl))⟩
  f27 := ⟨Tryz.f150.name, by decide, Tryz.func150.trans (congrArg some (by kernel_rfl))⟩
  f28 := Tryz.func127.trans (congrArg some (by kernel_rfl))
  f29 := Tryz.func128.trans (congrArg some (by kernel_rfl))
  f46 := ⟨Tryz.f192.name, by decide, Tryz.func192.trans (congrArg some (by kernel_rfl))⟩
  f47 := Tryz.func171.trans (congrArg some (by kernel_rfl))
  f48 := Tryz.func172.trans (congrArg some (by kernel_rfl))
  f49 := ⟨Tryz.f193.name, by decide, Tryz.func193.trans (congrArg some (by kernel_rfl))⟩
  f50 := ⟨Tryz.f194.name, by decide, Tryz.func194.trans (congrArg some (by kernel_rfl))⟩
  f57 := ⟨Tryz.f227.name, by decide, Tryz.func227.trans (congrArg some (by kernel_rfl))⟩
  t0 := Tryz.underlying0
  a0 := Tryz.isAgg0
  z0 := Tryz.sizeOf0
  v0 := Tryz.zeroValue0
  t3 := Tryz.underlying3
  a3 := Tryz.isAgg3
  z3 := Tryz.sizeOf3
  v3 := Tryz.zeroValue3
  t4 := Tryz.underlying4
  a4 := Tryz.isAgg4
  z4 := Tryz.sizeOf4
  v4 := Tryz.zeroValue4
  t5 := Tryz.underlying5
  a5 := Tryz.isAgg5
  z5 := Tryz.sizeOf5
  v5 := Tryz.zeroValue5
  t9 := Tryz.underlying9
  a9 := Tryz.isAgg9
  z9 := Tryz.sizeOf9
  v9 := Tryz.zeroValue9
  t22 := Tryz.underlying25
  a22 := Tryz.isAgg25
  z22 := Tryz.sizeOf25
  v22 := Tryz.zeroValue25
  t25 := Tryz.underlying72
  a25 := Tryz.isAgg72
  z25 := Tryz.sizeOf72
  v25 := Tryz.zeroValue72
  t39 := Tryz.underlying117
  a39 := Tryz.isAgg117
  z39 := Tryz.sizeOf117
  v39 := Tryz.zeroValue117
  t45 := Tryz.underlying148
  a45 := Tryz.isAgg148
  z45 := Tryz.sizeOf148
  v45 := Tryz.zeroValue148
  t46 := Tryz.underlying149
  a46 := Tryz.isAgg149
  z46 := Tryz.sizeOf149
  v46 := Tryz.zeroValue149
  t50 := Tryz.underlying90
  a50 := Tryz.isAgg90
  z50 := Tryz.sizeOf90
  v50 := Tryz.zeroValue90
  t53 := Tryz.underlying155
  a53 := Tryz.isAgg155
  z53 := Tryz.sizeOf155
  v53 := Tryz.zeroValue155
  t55 := Tryz.underlying120
  a55 := Tryz.isAgg120
  z55 := Tryz.sizeOf120
  v55 := Tryz.zeroValue120
  t66 := Tryz.underlying193
  a66 := Tryz.isAgg193
  z66 := Tryz.sizeOf193
  v66 := Tryz.zeroValue193
  t70 := Tryz.underlying197
  a70 := Tryz.isAgg197
  z70 := Tryz.sizeOf197
  v70 := Tryz.zeroValue197
  t76 := Tryz.underlying229
  a76 := Tryz.isAgg229
  z76 := Tryz.sizeOf229
  v76 := Tryz.zeroValue229
  t77 := Tryz.underlying230
  a77 := Tryz.isAgg230
  z77 := Tryz.sizeOf230
  v77 := Tryz.zeroValue230 }
end Go.Proofs

namespace Go.Proofs.YtddlohbhchjjhaaGreatDoor
open Go.RowKit Go.Shelf

def nameA : ByteArray := ⟨#[97]⟩
theorem lab_a : labB nameA = true := by decide
theorem res_a : resB nameA = false := by decide
theorem idx_a : decide (0 ≤ Lib.indexByte nameA.data.toList 47) = false := by decide
set_option maxHeartbeats 400000 in
theorem freeA_any (w : World) : Calls Tryz.prog 163 #[.string nameA] w fun e w' => e = .returned (.bool true) ∧ Below w.heap.size w w' := by
  have HN : Hid (Calls Tryz.prog 142 #[.string nameA] w fun e w' => e = .returned (.bool true) ∧ Below w.heap.size w w') := by
    show Calls _ _ _ _ _
    go_enter Tryz.func142, Tryz.ntmps142
    go_wp2_with (first
      | (go_at_call 79; refine (label_any _ _ (by decide)).mono ?_; rintro e w1 ⟨rfl, hb⟩; rw [lab_a])
      | (go_at_call 191; refine (Tryz.strings_Contains_one _ _ _).mono ?_; rintro e w1 ⟨rfl, rfl⟩; rw [idx_a]))
    go_ret
    exact ⟨rfl, hb⟩
  go_enter Tryz.func163, Tryz.ntmps163
  go_wp2_with (first
    | (go_at_call 142; refine HN.out.mono ?_; rintro e w1 ⟨rfl, hb⟩)
    | (go_at_call 216; refine (reserved_any _ _).mono ?_; rintro e w2 ⟨rfl, rfl⟩; rw [res_a]))
  go_ret
  exact ⟨rfl, hb⟩
set_option maxRecDepth 100000 in
set_option maxHeartbeats 1000000 in
theorem checkRule_any (A : Option Addr) (n c B : Nat) (l : List ByteArray) (w : World) (h : Sl w B 1 A n (strs l)) (hB : B ≤ w.heap.size) (hn : n ≤ c) (hc : c ≤ maxLen) (hls : ∀ x ∈ l, x.size ≤ maxLen) :
    Calls Tryz.prog 114 #[.agg #[.int .i64 1, .string nameA, .slice none 0 0, .slice A n c]] w fun e w' => e = .returned (.int .i64 (visE l)) ∧ Below w.heap.size w w' := by
  have H := Lib.hid h; have HLS := Lib.hid hls
  have HLL : Hid (l.length = n) := by have := h.1; rw [strs_len] at this; show _ = _; omega
  clear h hls
  have hnm : n ≤ 9223372036854775807 := by unfold maxLen at hc; omega
  have HB0 : Hid (Below w.heap.size w (w.alloc (.cells #[.int .i64 1, .string nameA, .slice none 0 0, .slice A n c] 60))) := (Below.refl _ w).alloc (Nat.le_refl _) _
  have hk0 : Bk (w.alloc (.cells #[.int .i64 1, .string nameA, .slice none 0 0, .slice A n c] 60)) w.heap.size 60 #[.int .i64 1, .string nameA, .slice none 0 0, .slice A n c] := Bk.new w _ _
  have HK0 := Lib.hid hk0
  clear hk0
  go_enter Tryz.func114, Tryz.ntmps114
  go_wp2_with (go_at_call 163; refine (freeA_any _).mono ?_; rintro e w1 ⟨rfl, hb1⟩; refine halt_ ?_)
  refine unhalt ?_
  have HK1 := Lib.hid (HK0.out.below hb1 (by simp))
  have HB1 : Hid (Below w.heap.size w w1) := HB0.out.trans (hb1.mono (by simp))
  have u2 := HK1.out.cell 2; have u3 := HK1.out.cell 3
  simp only [List.getElem?_toArray, List.getElem?_cons_succ, List.getElem?_cons_zero] at u2 u3
  clear hb1
  by_cases hlong : 20 < n
  · have hF : Hid (visE l = 4) := by show _ = _; unfold visE; rw [if_pos (by rw [HLL.out]; exact hlong)]
    have hlz : (20 : Int) < (n : Int) := by omega
    go_wp2_with fail
    go_ret
    exact ⟨ret_int hF.out.symm, HB1.out⟩
  · have hF : Hid (visE l = elE viewB [] l) := by show _ = _; unfold visE; rw [if_neg (by rw [HLL.out]; exact hlong)]
    have hlz : ¬ (20 : Int) < (n : Int) := by omega
    have HV := Lib.hid (checkView_any A n c B l w1 (H.out.below HB1.out hB) (Nat.le_trans hB HB1.out.size) hn hc HLS.out)
    go_wp2_with (go_at_call 164; refine (checkNone_any none 0 _ _).mono ?_; rintro e w2 ⟨rfl, rfl⟩; refine halt_ ?_)
    refine unhalt ?_
    go_wp2_with (go_at_call 164; refine HV.out.mono ?_; rintro e w2 ⟨rfl, hb2⟩)
    go_ret
    exact ⟨ret_int hF.out.symm, HB1.out.trans (hb2.mono HB1.out.size)⟩
set_option maxHeartbeats 400000 in
theorem indexNone_any (A : Option Addr) (c : Nat) (f : Value) (w : World) : Calls Tryz.prog 167 #[.slice A 0 c, f] w fun e w' => e = .returned (.int .i64 (-1)) ∧ w = w' := by
  go_enter Tryz.func167, Tryz.ntmps167
  go_wp2
  go_loop [8] (fun i => i = .int .i64 0) (fun _ => 0)
  case atStart => rfl
  case round =>
    subst hrel
    go_wp2
    go_ret
    exact ⟨rfl, rfl⟩
set_option maxHeartbeats 400000 in
theorem containsNone_any (A : Option Addr) (c : Nat) (f : Value) (w : World) : Calls Tryz.prog 115 #[.slice A 0 c, f] w fun e w' => e = .returned (.bool false) ∧ w = w' := by
  go_enter Tryz.func115, Tryz.ntmps115
  go_wp2_with (go_at_call 167; refine (indexNone_any _ _ _ _).mono ?_; rintro e w2 ⟨rfl, rfl⟩)
  go_ret
  exact ⟨rfl, rfl⟩
theorem infoRule : (Tryz.prog.info? 60).map (fun i => (i.zero, i.size, i.bytes)) = some (some (.agg #[.int .i64 0, .string ⟨#[]⟩, .slice none 0 0, .slice none 0 0]), 4, 72) := by kernel_rfl
set_option maxRecDepth 100000 in
set_option maxHeartbeats 2000000 in
theorem checkOne_any (A : Option Addr) (n c B b : Nat) (l : List ByteArray) (w : World) (h : Sl w B 1 A n (strs l)) (hB : B ≤ w.heap.size) (hn : n ≤ c) (hc : c ≤ maxLen) (hls : ∀ x ∈ l, x.size ≤ maxLen) (hk : Bk w b 60 #[.int .i64 1, .string nameA, .slice none 0 0, .slice A n c]) :
    Calls Tryz.prog 81 #[.slice (some ⟨b, 0, none⟩) 1 1] w fun e w' => e = .returned (.int .i64 (visE l)) ∧ Below w.heap.size w w' := by
  have H := Lib.hid h; have HLS := Lib.hid hls; have HK := Lib.hid hk
  clear h hls hk
  have u0 := HK.out.cell 0; have u1 := HK.out.cell 1; have u2 := HK.out.cell 2; have u3 := HK.out.cell 3
  simp only [List.getElem?_toArray, List.getElem?_cons_succ, List.getElem?_cons_zero] at u0 u1 u2 u3
  go_enter Tryz.func81, Tryz.ntmps81
  go_wp2
  go_loopw [11] (fun i wr => (i = .int .i64 0 ∧ wr = w) ∨ (i = .int .i64 1 ∧ Hid (visE l = 0) ∧ Hid (Below w.heap.size w wr))) (fun i _ => 1 - (intOf i).toNat)
  case atStart => exact .inl ⟨rfl, rfl⟩
  case round =>
    rcases hrel with ⟨rfl, rfl⟩ | ⟨rfl, hE, hBel⟩
    · have HB0 : Hid (Below wr.heap.size wr (wr.alloc (.cells #[.int .i64 1, .string nameA, .slice none 0 0, .slice A n c] 60))) := (Below.refl _ wr).alloc (Nat.le_refl _) _
      have HC := Lib.hid (checkRule_any A n c B l (wr.alloc (.cells #[.int .i64 1, .string nameA, .slice none 0 0, .slice A n c] 60)) (H.out.below HB0.out hB) (by simp; omega) hn hc HLS.out)
      have hsl : ∀ w' : World, (Instr.sliceAt 58 (.slice (some ⟨b, 0, none⟩) 1 1) none (some (.int .i64 0)) none).run Tryz.prog w' = .ok (.slice (some ⟨b, 0, none⟩) 0 1) w' := fun w' => by
        obtain ⟨i0, hi0, _⟩ := info_parts infoRule
        exact run_slice_to 58 i0 Tryz.underlying58 hi0 _ 1 1 0 (by omega) w'
      by_cases hv : visE l = 0
      · have HV := Lib.hid hv
        rw [hv] at HC
        clear hv
        go_wp2_with (go_at_call 114; refine HC.out.mono ?_; rintro e w2 ⟨rfl, hb2⟩; refine halt_ ?_)
        refine unhalt ?_
        have HB2 : Hid (Below wr.heap.size wr w2) := HB0.out.trans (hb2.mono (by simp))
        clear hb2
        go_wp2_with (go_at_call 115; refine (containsNone_any _ _ _ _).mono ?_; rintro e w3 ⟨rfl, rfl⟩)
        go_roundw
        case rel => exact .inr ⟨rfl, HV.out, HB2.out⟩
        case measure => simp [intOf]
      · have hv' : (visE l != 0) = true := by simpa using hv
        obtain ⟨v, hve⟩ : ∃ v, visE l = v := ⟨_, rfl⟩
        rw [hve] at HC hv'
        have HVE := Lib.hid hve
        clear hv hve
        go_wp2_with (go_at_call 114; refine HC.out.mono ?_; rintro e w2 ⟨rfl, hb2⟩)
        go_ret
        exact ⟨ret_int HVE.out.symm, HB0.out.trans (hb2.mono (by simp))⟩
    · go_wp2
      go_ret
      exact ⟨ret_int hE.out.symm, hBel.out⟩
end Go.Proofs.YtddlohbhchjjhaaGreatDoor

namespace Go.Proofs.YtddlohbhchjjhaaGreatDoor
open Go.RowKit Go.Maps

def rawR (v : Value) : Option (DataW Value × List MemPlace) := some (.held v, [])
theorem rawR_inv {v u : Value} {ps : List MemPlace} (h : rawR v = some (.held u, ps)) : v = u := by
  simp [rawR] at h; exact h.1
def Rm (w : World) (P : Program) (k : TypeId) (b N : Nat) (g : ByteArray → Option Value) : Prop :=
  ∃ D : DataW Value, w.ownsMap P k rawR b N D ∧ ∀ s : ByteArray, Maps.has D (.string s.data.toList) = (g s).isSome ∧ ∀ z, D.atKey (.string s.data.toList) (.held z) = .held ((g s).getD z)
def upd (g : ByteArray → Option Value) (s : ByteArray) (v : Value) : ByteArray → Option Value := fun t => if t = s then some v else g t
theorem upd_same (g : ByteArray → Option Value) (s : ByteArray) (v : Value) : upd g s v s = some v := by simp [upd]
theorem upd_other (g : ByteArray → Option Value) {s t : ByteArray} (v : Value) (h : t ≠ s) : upd g s v t = g t := by simp [upd, h]

section
variable {w w' : World} {P : Program} {k t e : TypeId} {b N : Nat} {g : ByteArray → Option Value}
theorem Rm.made (w : World) (P : Program) (k : TypeId) : Rm (w.alloc (.map #[] 0)) P k w.heap.size 0 (fun _ => none) :=
  ⟨.map [], World.ownsMap_made w P k rawR, fun _ => ⟨rfl, fun _ => rfl⟩⟩
theorem Rm.lt (h : Rm w P k b N g) : b < w.heap.size := h.choose_spec.1.lt
theorem Rm.more (h : Rm w P k b N g) {M : Nat} (hm : N ≤ M) : Rm w P k b M g := by
  obtain ⟨D, h1, h2⟩ := h; exact ⟨D, h1.mono hm, h2⟩
theorem Rm.kept {row : Option Nat} (h : Rm w P k b N g) (hg : w.grownBy w' row) (hr : some b ≠ row) : Rm w' P k b N g := by
  obtain ⟨D, h1, h2⟩ := h; exact ⟨D, h1.kept hg hr, h2⟩
theorem Rm.below {B : Nat} (h : Rm w P k b N g) (hb : Below B w w') (hB : b < B) : Rm w' P k b N g := by
  obtain ⟨D, ⟨es, clock, h1, h2⟩, h3⟩ := h
  exact ⟨D, ⟨es, clock, (hb.block b hB).trans h1, h2⟩, h3⟩
theorem Rm.alloc (h : Rm w P k b N g) (o : Obj) : Rm (w.alloc o) P k b N g := h.kept (World.grownBy_alloc w o none) (by simp)
theorem key_str (hk : P.underlying k = some .string) {s : ByteArray} (hs : s.size ≤ maxLen) : keyOf P k (.string s) = some (.string s.data.toList) := by simp [keyOf, hk, mapKey]; exact hs
theorem Rm.look (h : Rm w P k b N g) (hk : P.underlying k = some .string) (ht : P.underlying t = some (.map k e)) {z : Value} (hz : (zeroValue e).run P w = .ok z w) {s : ByteArray} (hs : s.size ≤ maxLen) :
    (Instr.lookup t (.map (some b)) (.string s) false).run P w = .ok ((g s).getD z) w := by
  obtain ⟨D, h1, h2⟩ := h
  obtain ⟨v, ps, hrun, hv⟩ := h1.lookup (string_keyed hk) ht hz (zd := .held z) (zp := []) rfl (key_str hk hs)
  rw [(h2 s).2 z] at hv
  rw [hrun, rawR_inv hv]
theorem Rm.look_ok (h : Rm w P k b N g) (hk : P.underlying k = some .string) (ht : P.underlying t = some (.map k e)) {z : Value} (hz : (zeroValue e).run P w = .ok z w) {s : ByteArray} (hs : s.size ≤ maxLen) :
    (Instr.lookup t (.map (some b)) (.string s) true).run P w = .ok (.tuple #[(g s).getD z, .bool (g s).isSome]) w := by
  obtain ⟨D, h1, h2⟩ := h
  obtain ⟨v, ps, hrun, hv⟩ := h1.look_ok (string_keyed hk) ht hz (zd := .held z) (zp := []) rfl (key_str hk hs)
  rw [(h2 s).2 z] at hv
  rw [hrun, rawR_inv hv, (h2 s).1]
theorem lit_ne {s r : ByteArray} (h : r ≠ s) : (Lit.string r.data.toList) ≠ .string s.data.toList := fun e => h (data_inj (by injection e))
theorem Rm.put (h : Rm w P k b N g) (hk : P.underlying k = some .string) (ht : P.underlying t = some (.map k e)) (hn : N < maxLen) {s : ByteArray} (hs : s.size ≤ maxLen) (v : Value) :
    ∃ w', (Instr.mapUpdate t (.map (some b)) (.string s) v).run P w = .ok () w' ∧ Rm w' P k b (N + 1) (upd g s v) ∧ w.grownBy w' (some b) := by
  obtain ⟨D, h1, h2⟩ := h
  obtain ⟨w', hrun, ho, hg⟩ := h1.update (string_keyed hk) ht hn (key_str hk hs) (d := .held v) (ps := []) rfl
  refine ⟨w', hrun, ⟨_, ho, fun r => ?_⟩, hg⟩
  have hkl := (string_keyed hk).key (key_str hk hs)
  by_cases hr : r = s
  · subst hr
    rw [upd_same, has_put_same h1.isMap hkl]
    exact ⟨rfl, fun z => atKey_put_same h1.isMap hkl _ _⟩
  · rw [upd_other _ _ hr, has_put_other (lit_ne hr)]
    exact ⟨(h2 r).1, fun z => (atKey_put_other (lit_ne hr) _ _).trans ((h2 r).2 z)⟩
theorem wpList_put_rm {ops : Array Oper} {rest : List Oper} {o : Oper} {a : Act} {Q : Exit → Act → World → Prop} (hgd : o.guard = none) (m x y : Operand) (t : TypeId) (hop : o.op = Op.mapUpdate t m x y)
    (k e : TypeId) (hk : P.underlying k = some .string) (ht : P.underlying t = some (.map k e)) (b N : Nat) (g : ByteArray → Option Value) (hm : a.eval m = .map (some b)) (h : Rm w P k b N g) (hn : N < maxLen)
    (s : ByteArray) (hs : s.size ≤ maxLen) (v : Value) (hx : a.eval x = .string s) (hy : a.eval y = v)
    (hK : ∀ w', Rm w' P k b (N + 1) (upd g s v) → w.grownBy w' (some b) → wpList P ops Q rest (a.put o.dst undef) w') : wpList P ops Q (o :: rest) a w := by
  refine wpList_plain hgd fun K' hK' => ?_
  obtain ⟨w', hrun, r1, r2⟩ := h.put hk ht hn hs v
  unfold Oper.wp
  simp [execOp, hop, hm, hx, hy, hrun, Result.andThen]
  exact hK' _ _ (hK w' r1 r2)

/-! ### ranging -/
def RmR (w : World) (P : Program) (k : TypeId) (b r N : Nat) (g : ByteArray → Option Value) (left : ByteArray → Bool) (cnt : Nat) : Prop :=
  ∃ (D : DataW Value) (lf : Lit → Bool), w.ranges P k rawR b r N D lf cnt ∧ (∀ s : ByteArray, Maps.has D (.string s.data.toList) = (g s).isSome ∧ ∀ z, D.atKey (.string s.data.toList) (.held z) = .held ((g s).getD z)) ∧ ∀ s : ByteArray, lf (.string s.data.toList) = left s
variable {r cnt : Nat} {left : ByteArray → Bool}
theorem RmR.rm (h : RmR w P k b r N g left cnt) : Rm w P k b N g := by
  obtain ⟨D, lf, ⟨es, clock, since, seen, c0, hb, F, hs, hD, _⟩, h2, _⟩ := h
  exact ⟨D, ⟨es, clock, hb, F, hs, hD⟩, h2⟩
theorem RmR.kept {row : Option Nat} (h : RmR w P k b r N g left cnt) (hg : w.grownBy w' row) (hb : some b ≠ row) (hr : some r ≠ row) : RmR w' P k b r N g left cnt := by
  obtain ⟨D, lf, ⟨es, clock, since, seen, c0, h1, F, hs, hD, h3, h4⟩, h2, h5⟩ := h
  exact ⟨D, lf, ⟨es, clock, since, seen, c0, (hg.block b (Array.getElem?_eq_some_iff.1 h1).1 hb).trans h1, F, hs, hD, (hg.block r (Array.getElem?_eq_some_iff.1 h3).1 hr).trans h3, h4⟩, h2, h5⟩
theorem RmR.below {B : Nat} (h : RmR w P k b r N g left cnt) (hw : Below B w w') (hb : b < B) (hr : r < B) : RmR w' P k b r N g left cnt := by
  obtain ⟨D, lf, ⟨es, clock, since, seen, c0, h1, F, hs, hD, h3, h4⟩, h2, h5⟩ := h
  exact ⟨D, lf, ⟨es, clock, since, seen, c0, (hw.block b hb).trans h1, F, hs, hD, (hw.block r hr).trans h3, h4⟩, h2, h5⟩
theorem RmR.left_ (h : RmR w P k b r N g left cnt) : w.rangeLeft b r = cnt := by
  obtain ⟨D, lf, ⟨es, clock, since, seen, c0, h1, F, hs, hD, h3, _, h4, _⟩, _⟩ := h
  simp [World.rangeLeft, h1, h3, h4]
theorem key_inv (hk : P.underlying k = some .string) {key : Value} {kl : Lit} (h : keyOf P k key = some kl) : ∃ s : ByteArray, key = .string s ∧ kl = .string s.data.toList ∧ s.size ≤ maxLen := by
  cases key <;> simp [keyOf, hk, mapKey] at h
  exact ⟨_, rfl, h.2.symm, h.1⟩
theorem same_str (s z : ByteArray) : (Lit.string z.data.toList).sameKey (.string s.data.toList) = decide (z = s) := by
  rw [sameKey_str]
  by_cases h : z = s
  · subst h; simp
  · simp only [h, decide_false]
    rw [beq_eq_false_iff_ne]; exact fun e => h (data_inj e)
theorem wpList_range_rm {ops : Array Oper} {rest : List Oper} {o : Oper} {a : Act} {Q : Exit → Act → World → Prop} (hgd : o.guard = none) (m : Operand) (t : TypeId) (hop : o.op = Op.range t m)
    (k e : TypeId) (hk : P.underlying k = some .string) (ht : P.underlying t = some (.map k e)) (b N : Nat) (g : ByteArray → Option Value) (hm : a.eval m = .map (some b)) (h : Rm w P k b N g)
    (hK : ∀ w' cnt, RmR w' P k b w.heap.size N g (fun s => (g s).isSome) cnt → w.grownBy w' none → w'.heap.size = w.heap.size + 1 → wpList P ops Q rest (a.put o.dst (.pointer (some ⟨w.heap.size, 0, none⟩))) w') : wpList P ops Q (o :: rest) a w := by
  obtain ⟨D, h1, h2⟩ := h
  refine wpList_range_own w hgd m t hop k e (string_keyed hk) ht rawR b N D hm h1 (fun w' h3 h4 h5 => hK w' _ ⟨D, _, h3, h2, fun s => (h2 s).1⟩ h4 h5)
theorem wpList_next_rm {ops : Array Oper} {rest : List Oper} {o : Oper} {a : Act} {Q : Exit → Act → World → Prop} (hgd : o.guard = none) (it : Operand) (hop : o.op = Op.next it false)
    (k : TypeId) (hk : P.underlying k = some .string) (b r N : Nat) (g : ByteArray → Option Value) (left : ByteArray → Bool) (cnt : Nat) (hit : a.eval it = .pointer (some ⟨r, 0, none⟩)) (h : RmR w P k b r N g left cnt)
    (hDone : (∀ s, left s = false) → wpList P ops Q rest (a.put o.dst (.tuple #[.bool false])) w)
    (hMore : ∀ (s : ByteArray) (v : Value) (w' : World) (cnt' : Nat), s.size ≤ maxLen → left s = true → g s = some v → RmR w' P k b r N g (fun z => left z && !decide (z = s)) cnt' → cnt' < cnt → w.grownBy w' (some r) → w'.heap.size = w.heap.size →
      (Instr.entry (.pointer (some ⟨r, 0, none⟩))).run P w' = .ok (.tuple #[.string s, v]) w' → wpList P ops Q rest (a.put o.dst (.tuple #[.bool true, .string s, v])) w') : wpList P ops Q (o :: rest) a w := by
  obtain ⟨D, lf, h1, h2, h3⟩ := h
  refine wpList_next_ranges (α := ByteArray) (β := Value) w hgd it hop k (string_keyed hk) rawR (fun s => .string s) id (fun key kl hkey => ?_) (fun v y _ => ⟨v, rfl⟩) b r N D lf cnt hit h1
    (fun _ hl => hDone fun s => by rw [← h3 s]; exact hl _) (fun s v kl y w' cnt' hkey hlk hv hat hrg hlt hgr hsz hen => ?_)
  · obtain ⟨s, e, _⟩ := key_inv hk hkey; exact ⟨s, e⟩
  · obtain ⟨s', e1, e2, hz⟩ := key_inv hk hkey
    cases e1
    subst e2
    have hl : left s = true := by rw [← h3 s]; exact hlk
    have hy : y = (.held v, []) := by simp [rawR] at hv; exact hv.symm
    subst hy
    have hg1 : (g s).isSome = true := by rw [← (h2 s).1]; exact has_true_of_atKey hat
    obtain ⟨u, hu⟩ := Option.isSome_iff_exists.1 hg1
    have hg2 : g s = some v := by
      have e1 := (h2 s).2 v
      rw [hat] at e1
      rw [hu] at e1 ⊢
      simp at e1
      rw [e1]
    exact hMore s v w' cnt' hz hl hg2 ⟨D, _, hrg, h2, fun z => by simp only [h3, same_str]⟩ hlt hgr hsz hen
end
end Go.Proofs.YtddlohbhchjjhaaGreatDoor

namespace Go.Proofs.YtddlohbhchjjhaaGreatDoor
open Go.RowKit Go.Maps



def idxG (ts : List Tg) : ByteArray → Option Value := fun s => (findT ts s).map tgV
theorem idxG_skip {ts : List Tg} {t : Tg} (h : isT ts t.lab = true) : idxG (ts ++ [t]) = idxG ts := by
  funext s
  unfold idxG
  rw [findT_snoc]
  cases hf : findT ts s with
  | some x => rfl
  | none =>
    by_cases e : t.lab = s
    · subst e; unfold isT at h; rw [hf] at h; cases h
    · simp [e]
theorem idxG_put {ts : List Tg} {t : Tg} (h : isT ts t.lab = false) : idxG (ts ++ [t]) = upd (idxG ts) t.lab (tgV t) := by
  funext s
  unfold idxG upd
  rw [findT_snoc]
  by_cases e : s = t.lab
  · subst e
    unfold isT at h
    cases hf : findT ts t.lab with
    | some x => rw [hf] at h; cases h
    | none => simp
  · cases hf : findT ts s with
    | some x => simp [e, hf]
    | none => simp [e, hf, Ne.symm e]
theorem idxG_some (ts : List Tg) (s : ByteArray) : (idxG ts s).isSome = isT ts s := by
  unfold idxG isT; simp
theorem Sl.tg {w : World} {B n k : Nat} {A : Option Addr} {ts : List Tg} (h : Sl w B 4 A n (flat tgC ts)) (hk : k < n) :
    ∃ b off t, A = some ⟨b, off, none⟩ ∧ b < B ∧ ts[k]? = some t ∧ w.cell? ⟨b, off + k * 4, none⟩ = some (.string t.lab) ∧ w.cell? ⟨b, off + k * 4 + 1, none⟩ = some (.int .i64 t.kind) ∧ w.cell? ⟨b, off + k * 4 + 2, none⟩ = some (.slice t.dA t.dn t.dc) ∧ w.cell? ⟨b, off + k * 4 + 3, none⟩ = some (.slice t.vA t.vn t.vc) := by
  obtain ⟨b, off, t, e, hb, ht, hc⟩ := h.at_ tgC_len (by omega) hk
  exact ⟨b, off, t, e, hb, ht, hc 0 _ rfl, hc 1 _ rfl, hc 2 _ rfl, hc 3 _ rfl⟩
set_option maxRecDepth 100000 in
set_option maxHeartbeats 2000000 in
theorem index_any (A : Option Addr) (n c B : Nat) (ts : List Tg) (w : World) (h0 : Sl w B 4 A n (flat tgC ts)) (hB : B ≤ w.heap.size) (hn : n ≤ 1000000) (hls : ∀ t ∈ ts, t.lab.size ≤ maxLen) :
    Calls Tryz.prog 53 #[.slice A n c] w fun e w' => e = .returned (.map (some w.heap.size)) ∧ Rm w' Tryz.prog 9 w.heap.size n (idxG ts) ∧ Below w.heap.size w w' := by
  have HL := Lib.hid (h0.len tgC_len (by omega))
  have H0 := Lib.hid h0; have HLS := Lib.hid hls
  clear h0 hls
  have hmm := @run_makeMap Tryz.prog
  have HM0 : Hid (Rm (w.alloc (.map #[] 0)) Tryz.prog 9 w.heap.size 0 (idxG (ts.take 0))) := Rm.made w Tryz.prog 9
  have HB0 : Hid (Below w.heap.size w (w.alloc (.map #[] 0))) := (Below.refl _ w).alloc (Nat.le_refl _) _
  go_enter Tryz.func53, Tryz.ntmps53
  go_wp2
  go_loopw [11] (fun i wr => ∃ k : Nat, k ≤ n ∧ i = .int .i64 k ∧ Hid (Rm wr Tryz.prog 9 w.heap.size k (idxG (ts.take k))) ∧ Hid (Below w.heap.size w wr) ∧ w.heap.size < wr.heap.size) (fun i _ => n - (intOf i).toNat)
  case atStart => exact ⟨0, Nat.zero_le _, rfl, HM0.out, HB0.out, by simp⟩
  case round =>
    obtain ⟨k, hk, rfl, hM, hBel, hwz⟩ := hrel
    by_cases hlt : k < n
    · obtain ⟨b, off, t, rfl, hbB, ht, y0, y1, y2, y3⟩ := (H0.out.below hBel.out hB).tg hlt
      have HTK := Lib.hid (take_snoc ht)
      have HTS := Lib.hid (HLS.out t (List.mem_of_getElem? ht))
      have hlz : (k : Int) < (n : Int) := by omega
      obtain ⟨lab, kind, dA, dn, dc, deps, vA, vn, vc, vis⟩ := t
      simp only at y0 y1 y2 y3 HTS
      have hlk := (hM.out.alloc (.cells #[.string lab, .int .i64 kind, .slice dA dn dc, .slice vA vn vc] 35)).look_ok Tryz.underlying9 Tryz.underlying73 (Tryz.zeroValue35 _) HTS.out
      clear ht
      rw [idxG_some] at hlk
      have HK0 := Lib.hid (hM.out.alloc (.cells #[.string lab, .int .i64 kind, .slice dA dn dc, .slice vA vn vc] 35))
      have hk0 : Bk (wr.alloc (.cells #[.string lab, .int .i64 kind, .slice dA dn dc, .slice vA vn vc] 35)) wr.heap.size 35 #[.string lab, .int .i64 kind, .slice dA dn dc, .slice vA vn vc] := Bk.new wr _ _
      cases hs : isT (ts.take k) lab with
      | true =>
        obtain ⟨x, hx⟩ : ∃ x, findT (ts.take k) lab = some x := Option.isSome_iff_exists.1 hs
        have hgx : idxG (ts.take k) lab = some (tgV x) := by unfold idxG; rw [hx]; rfl
        have HST : Hid (idxG (ts.take (k + 1)) = idxG (ts.take k)) := by show _ = _; rw [HTK.out]; exact idxG_skip hs
        rw [hgx, hs] at hlk
        obtain ⟨xlab, xkind, xdA, xdn, xdc, xdeps, xvA, xvn, xvc, xvis⟩ := x
        simp only [Option.getD_some, tgV] at hlk
        clear hx hgx hs hk0
        have HM2 := Lib.hid (HK0.out.alloc (.cells #[.string xlab, .int .i64 xkind, .slice xdA xdn xdc, .slice xvA xvn xvc] 35))
        have HB2 : Hid (Below w.heap.size w ((wr.alloc (.cells #[.string lab, .int .i64 kind, .slice dA dn dc, .slice vA vn vc] 35)).alloc (.cells #[.string xlab, .int .i64 xkind, .slice xdA xdn xdc, .slice xvA xvn xvc] 35))) := (hBel.out.alloc (by omega) _).alloc (by simp; omega) _
        go_wp2
        go_roundw
        case rel => exact ⟨k + 1, by omega, by go_num, by show Rm _ _ _ _ _ _; rw [HST.out]; exact HM2.out.more (by omega), HB2.out, by simp; omega⟩
        case measure => simp [intOf]; omega
      | false =>
        have hgx : idxG (ts.take k) lab = none := by
          unfold idxG; unfold isT at hs
          cases hf : findT (ts.take k) lab with
          | none => rfl
          | some x => rw [hf] at hs; cases hs
        have HST : Hid (idxG (ts.take (k + 1)) = upd (idxG (ts.take k)) lab (.agg #[.string lab, .int .i64 kind, .slice dA dn dc, .slice vA vn vc])) := by show _ = _; rw [HTK.out]; exact idxG_put hs
        rw [hgx, hs] at hlk
        simp only [Option.getD_none] at hlk
        clear hgx hs
        have HM2 := Lib.hid (HK0.out.alloc (.cells #[.string ⟨#[]⟩, .int .i64 0, .slice none 0 0, .slice none 0 0] 35))
        have hk2 := hk0.alloc (.cells #[.string ⟨#[]⟩, .int .i64 0, .slice none 0 0, .slice none 0 0] 35)
        have HB2 : Hid (Below w.heap.size w ((wr.alloc (.cells #[.string lab, .int .i64 kind, .slice dA dn dc, .slice vA vn vc] 35)).alloc (.cells #[.string ⟨#[]⟩, .int .i64 0, .slice none 0 0, .slice none 0 0] 35))) := (hBel.out.alloc (by omega) _).alloc (by simp; omega) _
        have u0 := hk2.cell 0; have u1 := hk2.cell 1; have u2 := hk2.cell 2; have u3 := hk2.cell 3
        simp at u0 u1 u2 u3
        clear hk0 hk2
        go_wp2_with (at_mapUpdate; refine halt_ ?_)
        refine unhalt ?_
        refine wpList_put_rm rfl _ _ _ 73 rfl 9 35 Tryz.underlying9 Tryz.underlying73 w.heap.size k _ rfl HM2.out (by unfold maxLen; omega) lab HTS.out _ rfl rfl ?_
        intro w3 hM3 hg3
        have HM3 := Lib.hid hM3
        have HB3 : Hid (Below w.heap.size w w3) := HB2.out.grown hg3 (by simp; omega) (fun k e => by cases e; omega)
        have hz3 : w.heap.size < w3.heap.size := by have := hg3.size; simp at this; omega
        clear hM3 hg3
        go_wp2
        go_roundw
        case rel => exact ⟨k + 1, by omega, by go_num, by show Rm _ _ _ _ _ _; rw [HST.out]; exact HM3.out, HB3.out, hz3⟩
        case measure => simp [intOf]; omega
    · have hlz : ¬ (k : Int) < (n : Int) := by omega
      have hM2 := hM.out
      rw [List.take_of_length_le (by rw [HL.out]; omega)] at hM2
      have HM2 := Lib.hid (hM2.more hk)
      clear hM2 hM
      go_wp2
      go_ret
      exact ⟨rfl, HM2.out, hBel.out⟩
end Go.Proofs.YtddlohbhchjjhaaGreatDoor

namespace Go.Proofs.YtddlohbhchjjhaaGreatDoor
open Go.RowKit Go.Shelf

def namT (s : ByteArray) : Bool := labB s && !(decide (0 ≤ Lib.indexByte s.data.toList 47))
def freB (s : ByteArray) : Bool := namT s && !resB s
set_option maxHeartbeats 400000 in
theorem targetName_any (s : ByteArray) (w : World) (hs : s.size ≤ maxLen) : Calls Tryz.prog 142 #[.string s] w fun e w' => e = .returned (.bool (namT s)) ∧ Below w.heap.size w w' := by
  cases hl : labB s with
  | false =>
    have HF : Hid (namT s = false) := by show _ = _; unfold namT; rw [hl]; rfl
    have HL := Lib.hid hl
    clear hl
    go_enter Tryz.func142, Tryz.ntmps142
    go_wp2_with (go_at_call 79; refine (label_any _ _ hs).mono ?_; rintro e w1 ⟨rfl, hb⟩; rw [HL.out])
    go_ret
    exact ⟨ret_bool HF.out.symm, hb⟩
  | true =>
    cases hi : decide (0 ≤ Lib.indexByte s.data.toList 47) with
    | false =>
      have HF : Hid (namT s = true) := by show _ = _; unfold namT; rw [hl, hi]; rfl
      have HL := Lib.hid hl; have HI := Lib.hid hi
      clear hl hi
      go_enter Tryz.func142, Tryz.ntmps142
      go_wp2_with (first
        | (go_at_call 79; refine (label_any _ _ hs).mono ?_; rintro e w1 ⟨rfl, hb⟩; rw [HL.out])
        | (go_at_call 191; refine (Tryz.strings_Contains_one _ _ _).mono ?_; rintro e w1 ⟨rfl, rfl⟩; rw [HI.out]))
      go_ret
      exact ⟨ret_bool HF.out.symm, hb⟩
    | true =>
      have HF : Hid (namT s = false) := by show _ = _; unfold namT; rw [hl, hi]; rfl
      have HL := Lib.hid hl; have HI := Lib.hid hi
      clear hl hi
      go_enter Tryz.func142, Tryz.ntmps142
      go_wp2_with (first
        | (go_at_call 79; refine (label_any _ _ hs).mono ?_; rintro e w1 ⟨rfl, hb⟩; rw [HL.out])
        | (go_at_call 191; refine (Tryz.strings_Contains_one _ _ _).mono ?_; rintro e w1 ⟨rfl, rfl⟩; rw [HI.out]))
      go_ret
      exact ⟨ret_bool HF.out.symm, hb⟩
set_option maxHeartbeats 400000 in
theorem freeName_any (s : ByteArray) (w : World) (hs : s.size ≤ maxLen) : Calls Tryz.prog 163 #[.string s] w fun e w' => e = .returned (.bool (freB s)) ∧ Below w.heap.size w w' := by
  cases hl : namT s with
  | false =>
    have HF : Hid (freB s = false) := by show _ = _; unfold freB; rw [hl]; rfl
    have HL := Lib.hid hl
    clear hl
    go_enter Tryz.func163, Tryz.ntmps163
    go_wp2_with (go_at_call 142; refine (targetName_any _ _ hs).mono ?_; rintro e w1 ⟨rfl, hb⟩; rw [HL.out])
    go_ret
    exact ⟨ret_bool HF.out.symm, hb⟩
  | true =>
    cases hr : resB s with
    | false =>
      have HF : Hid (freB s = true) := by show _ = _; unfold freB; rw [hl, hr]; rfl
      have HL := Lib.hid hl; have HR := Lib.hid hr
      clear hl hr
      go_enter Tryz.func163, Tryz.ntmps163
      go_wp2_with (first
        | (go_at_call 142; refine (targetName_any _ _ hs).mono ?_; rintro e w1 ⟨rfl, hb⟩; rw [HL.out])
        | (go_at_call 216; refine (reserved_any _ _).mono ?_; rintro e w2 ⟨rfl, rfl⟩; rw [HR.out]))
      go_ret
      exact ⟨ret_bool HF.out.symm, hb⟩
    | true =>
      have HF : Hid (freB s = false) := by show _ = _; unfold freB; rw [hl, hr]; rfl
      have HL := Lib.hid hl; have HR := Lib.hid hr
      clear hl hr
      go_enter Tryz.func163, Tryz.ntmps163
      go_wp2_with (first
        | (go_at_call 142; refine (targetName_any _ _ hs).mono ?_; rintro e w1 ⟨rfl, hb⟩; rw [HL.out])
        | (go_at_call 216; refine (reserved_any _ _).mono ?_; rintro e w2 ⟨rfl, rfl⟩; rw [HR.out]))
      go_ret
      exact ⟨ret_bool HF.out.symm, hb⟩
set_option maxRecDepth 100000 in
set_option maxHeartbeats 2000000 in
theorem checkDeps_any (A : Option Addr) (n c B : Nat) (l : List ByteArray) (w : World) (h : Sl w B 1 A n (strs l)) (hB : B ≤ w.heap.size) (hn : n ≤ c) (hc : c ≤ maxLen) (hls : ∀ x ∈ l, x.size ≤ maxLen) :
    Calls Tryz.prog 164 #[.slice A n c, .func (.func 165) #[] #[]] w fun e w' => e = .returned (.int .i64 (elE frlB [] l)) ∧ Below w.heap.size w w' := by
  have hnm : n ≤ 9223372036854775807 := by unfold maxLen at hc; omega
  have H := Lib.hid h; have HLS := Lib.hid hls
  have HLL : Hid (l.length = n) := by have := h.1; rw [strs_len] at this; show _ = _; omega
  clear h hls
  go_enter Tryz.func164, Tryz.ntmps164
  go_wp2
  go_loopw [9] (fun i wr => ∃ k : Nat, k ≤ n ∧ i = .int .i64 k ∧ Hid (elE frlB [] l = elE frlB (l.take k) (l.drop k)) ∧ Hid (Below w.heap.size w wr)) (fun i _ => n - (intOf i).toNat)
  case atStart => exact ⟨0, Nat.zero_le _, rfl, rfl, Below.refl _ _⟩
  case round =>
    obtain ⟨k, hk, rfl, hE, hBel⟩ := hrel
    by_cases hlt : k < n
    · obtain ⟨b, off, x, rfl, hb, hx, y0⟩ := (H.out.below hBel.out hB).str_at hlt
      have hxs := HLS.out x (List.mem_of_getElem? hx)
      have HT := Lib.hid (elE_take (ok := frlB) hx)
      have hlz : (k : Int) < (n : Int) := by omega
      clear hx
      cases hv : frlB x with
      | false =>
        have hF : Hid (elE frlB [] l = 6) := by show _ = _; rw [hE.out, HT.out, hv]; rfl
        have HV := Lib.hid hv
        clear hv
        go_wp2_with (go_at_call 165; refine (freeLabel_any _ _ hxs).mono ?_; rintro e w1 ⟨rfl, hb1⟩; rw [HV.out])
        go_ret
        exact ⟨ret_int hF.out.symm, hBel.out.trans (hb1.mono hBel.out.size)⟩
      | true =>
        have HV := Lib.hid hv
        have HT2 : Hid (elE frlB (l.take k) (l.drop k) = if memB (l.take k) x then 7 else elE frlB (l.take (k + 1)) (l.drop (k + 1))) := by show _ = _; rw [HT.out, hv]; rfl
        clear hv HT
        go_wp2_with (go_at_call 165; refine (freeLabel_any _ _ hxs).mono ?_; rintro e w1 ⟨rfl, hb1⟩; rw [HV.out]; refine halt_ ?_)
        refine unhalt ?_
        have HB1 : Hid (Below w.heap.size w w1) := hBel.out.trans (hb1.mono hBel.out.size)
        clear hb1 hBel y0
        have hsl : ∀ w' : World, (Instr.sliceAt 33 (.slice (some ⟨b, off, none⟩) n c) none (some (.int .i64 k)) none).run Tryz.prog w' = .ok (.slice (some ⟨b, off, none⟩) k c) w' := fun w' => by
          obtain ⟨i0, hi0, _⟩ := info_parts infoStr'
          exact run_slice_to 33 i0 Tryz.underlying33 hi0 _ n c k (by omega) w'
        have HSL := Lib.hid (contains_any (some ⟨b, off, none⟩) n k c B l x w1 (H.out.below HB1.out hB) hk hnm)
        cases hm : memB (l.take k) x with
        | true =>
          have hF : Hid (elE frlB [] l = 7) := by show _ = _; rw [hE.out, HT2.out, hm]; rfl
          rw [hm] at HSL
          clear hm
          go_wp2_with (go_at_call 31; refine HSL.out.mono ?_; rintro e w2 ⟨rfl, rfl⟩)
          go_ret
          exact ⟨ret_int hF.out.symm, HB1.out⟩
        | false =>
          have hF : Hid (elE frlB [] l = elE frlB (l.take (k + 1)) (l.drop (k + 1))) := by show _ = _; rw [hE.out, HT2.out, hm]; rfl
          rw [hm] at HSL
          clear hm
          go_wp2_with (go_at_call 31; refine HSL.out.mono ?_; rintro e w2 ⟨rfl, rfl⟩)
          go_roundw
          case rel => exact ⟨k + 1, hlt, by go_num, hF.out, HB1.out⟩
          case measure => simp [intOf]; omega
    · have hlz : ¬ (k : Int) < (n : Int) := by omega
      have hF : Hid (elE frlB [] l = 0) := by
        show _ = _
        rw [hE.out, List.drop_of_length_le (by rw [HLL.out]; omega)]; rfl
      go_wp2
      go_ret
      exact ⟨ret_int hF.out.symm, hBel.out⟩

def rlC (t : Tg) : List Value := [.int .i64 t.kind, .string t.lab, .slice t.dA t.dn t.dc, .slice t.vA t.vn t.vc]
def rlV (t : Tg) : Value := .agg #[.int .i64 t.kind, .string t.lab, .slice t.dA t.dn t.dc, .slice t.vA t.vn t.vc]
theorem rlC_len (t : Tg) : (rlC t).length = 4 := rfl
theorem Sl.rl {w : World} {B n k : Nat} {A : Option Addr} {ts : List Tg} (h : Sl w B 4 A n (flat rlC ts)) (hk : k < n) :
    ∃ b off t, A = some ⟨b, off, none⟩ ∧ b < B ∧ ts[k]? = some t ∧ w.cell? ⟨b, off + k * 4, none⟩ = some (.int .i64 t.kind) ∧ w.cell? ⟨b, off + k * 4 + 1, none⟩ = some (.string t.lab) ∧ w.cell? ⟨b, off + k * 4 + 2, none⟩ = some (.slice t.dA t.dn t.dc) ∧ w.cell? ⟨b, off + k * 4 + 3, none⟩ = some (.slice t.vA t.vn t.vc) := by
  obtain ⟨b, off, t, e, hb, ht, hc⟩ := h.at_ rlC_len (by omega) hk
  exact ⟨b, off, t, e, hb, ht, hc 0 _ rfl, hc 1 _ rfl, hc 2 _ rfl, hc 3 _ rfl⟩
def ruleE (r : Tg) : Int := if r.kind ≠ 1 ∧ r.kind ≠ 2 then 9 else if freB r.lab = false then 6 else if 20 < r.deps.length ∨ 20 < r.vis.length then 4 else if elE frlB [] r.deps ≠ 0 then elE frlB [] r.deps else elE viewB [] r.vis
def chkE : List ByteArray → List Tg → Int
  | _, [] => 0
  | seen, r :: rs => if ruleE r ≠ 0 then ruleE r else if memB seen r.lab then 7 else chkE (seen ++ [r.lab]) rs
def checkE (l : List Tg) : Int := if 100 < l.length then 4 else chkE [] l
theorem chkE_take {l : List Tg} {k : Nat} {r : Tg} (h : l[k]? = some r) : chkE ((l.take k).map Tg.lab) (l.drop k) = if ruleE r ≠ 0 then ruleE r else if memB ((l.take k).map Tg.lab) r.lab then 7 else chkE ((l.take (k + 1)).map Tg.lab) (l.drop (k + 1)) := by
  have hk := List.getElem?_eq_some_iff.1 h
  have e : l.drop k = r :: l.drop (k + 1) := by rw [← hk.2, List.getElem_cons_drop]
  rw [e, take_snoc h]
  simp only [chkE, List.map_append, List.map_cons, List.map_nil]

set_option maxRecDepth 100000 in
set_option maxHeartbeats 2000000 in
theorem checkRule_g (B : Nat) (r : Tg) (w : World) (h : TgOk w B r) (hB : B ≤ w.heap.size) :
    Calls Tryz.prog 114 #[rlV r] w fun e w' => e = .returned (.int .i64 (ruleE r)) ∧ Below w.heap.size w w' := by
  have HD : Hid (r.deps.length = r.dn) := h.dlen
  have HV : Hid (r.vis.length = r.vn) := h.vlen
  obtain ⟨lab, kind, dA, dn, dc, deps, vA, vn, vc, vis⟩ := r
  have HO := Lib.hid h
  have hdc := h.dmax; have hvc := h.vmax
  have hdn := h.dle; have hvn := h.vle
  have hls := h.ls
  simp only [rlV]
  simp only at HD HV hdc hvc hdn hvn hls
  have hdm : dn ≤ 9223372036854775807 := by unfold maxLen at hdc; omega
  have hvm : vn ≤ 9223372036854775807 := by unfold maxLen at hvc; omega
  clear h
  have HB0 : Hid (Below w.heap.size w (w.alloc (.cells #[.int .i64 kind, .string lab, .slice dA dn dc, .slice vA vn vc] 60))) := (Below.refl _ w).alloc (Nat.le_refl _) _
  have hk0 : Bk (w.alloc (.cells #[.int .i64 kind, .string lab, .slice dA dn dc, .slice vA vn vc] 60)) w.heap.size 60 #[.int .i64 kind, .string lab, .slice dA dn dc, .slice vA vn vc] := Bk.new w _ _
  have HK0 := Lib.hid hk0
  have u0 := hk0.cell 0; have u1 := hk0.cell 1
  simp only [List.getElem?_toArray, List.getElem?_cons_succ, List.getElem?_cons_zero] at u0 u1
  clear hk0
  by_cases hk : kind ≠ 1 ∧ kind ≠ 2
  · have hF : Hid (ruleE ⟨lab, kind, dA, dn, dc, deps, vA, vn, vc, vis⟩ = 9) := by show _ = _; unfold ruleE; rw [if_pos hk]
    have k1 : (kind != 1) = true := by simpa using hk.1
    have k2 : (kind != 2) = true := by simpa using hk.2
    clear hk
    go_enter Tryz.func114, Tryz.ntmps114
    go_wp2_with fail
    go_ret
    exact ⟨ret_int hF.out.symm, HB0.out⟩
  · have hF0 : Hid (ruleE ⟨lab, kind, dA, dn, dc, deps, vA, vn, vc, vis⟩ = if freB lab = false then 6 else if 20 < deps.length ∨ 20 < vis.length then 4 else if elE frlB [] deps ≠ 0 then elE frlB [] deps else elE viewB [] vis) := by show _ = _; unfold ruleE; rw [if_neg hk]
    have hkk : (kind != 1) = false ∨ ((kind != 1) = true ∧ (kind != 2) = false) := by
      by_cases e : kind = 1
      · left; simp [e]
      · right; refine ⟨by simpa using e, ?_⟩
        have : kind = 2 := Classical.byContradiction fun e2 => hk ⟨e, e2⟩
        simp [this]
    clear hk
    cases hf : freB lab with
    | false =>
      have hF : Hid (ruleE ⟨lab, kind, dA, dn, dc, deps, vA, vn, vc, vis⟩ = 6) := by show _ = _; rw [hF0.out, if_pos hf]
      have HF := Lib.hid hf
      clear hf hF0
      go_enter Tryz.func114, Tryz.ntmps114
      rcases hkk with k1 | ⟨k1, k2⟩
      all_goals
        go_wp2_with (go_at_call 163; refine (freeName_any _ _ hls).mono ?_; rintro e w1 ⟨rfl, hb1⟩; rw [HF.out])
        go_ret
        exact ⟨ret_int hF.out.symm, HB0.out.trans (hb1.mono (by simp))⟩
    | true =>
      have hF1 : Hid (ruleE ⟨lab, kind, dA, dn, dc, deps, vA, vn, vc, vis⟩ = if 20 < deps.length ∨ 20 < vis.length then 4 else if elE frlB [] deps ≠ 0 then elE frlB [] deps else elE viewB [] vis) := by show _ = _; rw [hF0.out, if_neg (by rw [hf]; decide)]
      have HF := Lib.hid hf
      clear hf hF0
      go_enter Tryz.func114, Tryz.ntmps114
      rcases hkk with k1 | ⟨k1, k2⟩
      all_goals
        go_wp2_with (go_at_call 163; refine (freeName_any _ _ hls).mono ?_; rintro e w1 ⟨rfl, hb1⟩; rw [HF.out]; refine halt_ ?_)
        refine unhalt ?_
        have HK1 := Lib.hid (HK0.out.below hb1 (by simp))
        have HB1 : Hid (Below w.heap.size w w1) := HB0.out.trans (hb1.mono (by simp))
        have u2 := HK1.out.cell 2; have u3 := HK1.out.cell 3
        simp only [List.getElem?_toArray, List.getElem?_cons_succ, List.getElem?_cons_zero] at u2 u3
        clear hb1
        by_cases h20 : 20 < dn
        · have hF : Hid (ruleE ⟨lab, kind, dA, dn, dc, deps, vA, vn, vc, vis⟩ = 4) := by show _ = _; rw [hF1.out, if_pos (.inl (by rw [HD.out]; exact h20))]
          have hz : (20 : Int) < (dn : Int) := by omega
          go_wp2_with fail
          go_ret
          exact ⟨ret_int hF.out.symm, HB1.out⟩
        · have hz : ¬ (20 : Int) < (dn : Int) := by omega
          by_cases h21 : 20 < vn
          · have hF : Hid (ruleE ⟨lab, kind, dA, dn, dc, deps, vA, vn, vc, vis⟩ = 4) := by show _ = _; rw [hF1.out, if_pos (.inr (by rw [HV.out]; exact h21))]
            have hz2 : (20 : Int) < (vn : Int) := by omega
            go_wp2_with fail
            go_ret
            exact ⟨ret_int hF.out.symm, HB1.out⟩
          · have hz2 : ¬ (20 : Int) < (vn : Int) := by omega
            have hF2 : Hid (ruleE ⟨lab, kind, dA, dn, dc, deps, vA, vn, vc, vis⟩ = if elE frlB [] deps ≠ 0 then elE frlB [] deps else elE viewB [] vis) := by show _ = _; rw [hF1.out, if_neg (by rw [HD.out, HV.out]; omega)]
            clear hF1
            have HCD := Lib.hid (checkDeps_any dA dn dc B deps w1 (HO.out.d.below HB1.out hB) (Nat.le_trans hB HB1.out.size) hdn hdc HO.out.ds)
            by_cases hv : elE frlB [] deps = 0
            · have hF : Hid (ruleE ⟨lab, kind, dA, dn, dc, deps, vA, vn, vc, vis⟩ = elE viewB [] vis) := by show _ = _; rw [hF2.out, if_neg (fun h => h hv)]
              rw [hv] at HCD
              clear hv hF2
              go_wp2_with (go_at_call 164; refine HCD.out.mono ?_; rintro e w2 ⟨rfl, hb2⟩; refine halt_ ?_)
              refine unhalt ?_
              have HB2 : Hid (Below w.heap.size w w2) := HB1.out.trans (hb2.mono HB1.out.size)
              have HK2 := Lib.hid (HK1.out.below hb2 HK1.out.lt)
              have u3 := HK2.out.cell 3
              simp only [List.getElem?_toArray, List.getElem?_cons_succ, List.getElem?_cons_zero] at u3
              clear hb2 HCD
              have HCV := Lib.hid (checkView_any vA vn vc B vis w2 (HO.out.v.below HB2.out hB) (Nat.le_trans hB HB2.out.size) hvn hvc HO.out.vs)
              go_wp2_with (go_at_call 164; refine HCV.out.mono ?_; rintro e w3 ⟨rfl, hb3⟩)
              go_ret
              exact ⟨ret_int hF.out.symm, HB2.out.trans (hb3.mono HB2.out.size)⟩
            · have hF : Hid (ruleE ⟨lab, kind, dA, dn, dc, deps, vA, vn, vc, vis⟩ = elE frlB [] deps) := by show _ = _; rw [hF2.out, if_pos hv]
              have hv' : (elE frlB [] deps != 0) = true := by simpa using hv
              obtain ⟨v, hve⟩ : ∃ v, elE frlB [] deps = v := ⟨_, rfl⟩
              rw [hve] at HCD hv' hF
              clear hv hve hF2
              go_wp2_with (go_at_call 164; refine HCD.out.mono ?_; rintro e w2 ⟨rfl, hb2⟩)
              go_ret
              exact ⟨ret_int hF.out.symm, HB1.out.trans (hb2.mono HB1.out.size)⟩

set_option maxHeartbeats 400000 in
theorem check1_any (t : Tg) (b : Nat) (cs : Array Value) (lab : ByteArray) (w : World) (hc : Bk w b 60 cs) (h1 : cs[1]? = some (.string lab)) :
    Calls Tryz.prog 116 #[rlV t, .pointer (some ⟨b, 0, none⟩)] w fun e w' => e = .returned (.bool (decide (t.lab = lab))) ∧ Below w.heap.size w w' := by
  obtain ⟨tl, kind, dA, dn, dc, deps, vA, vn, vc, vis⟩ := t
  have HB0 : Hid (Below w.heap.size w (w.alloc (.cells #[.int .i64 kind, .string tl, .slice dA dn dc, .slice vA vn vc] 60))) := (Below.refl _ w).alloc (Nat.le_refl _) _
  have c0 := ((hc.below HB0.out hc.lt).cell 1).trans h1
  have k0 := (Bk.new w 60 #[.int .i64 kind, .string tl, .slice dA dn dc, .slice vA vn vc]).cell 1
  simp only [List.getElem?_toArray, List.getElem?_cons_zero, List.getElem?_cons_succ] at k0
  simp only [rlV]
  clear hc
  go_enter Tryz.func116, Tryz.ntmps116
  go_wp2
  go_ret
  exact ⟨ret_bool (str_dec tl lab), HB0.out⟩
theorem names_pass {ts : List Tg} {lab : ByteArray} {k : Nat} {t : Tg} (h : memB ((ts.take k).map Tg.lab) lab = false) (ht : ts[k]? = some t) (hn : t.lab ≠ lab) : memB ((ts.take (k + 1)).map Tg.lab) lab = false := by
  rw [take_snoc ht, List.map_append, memB, List.any_append]
  have h' : ((ts.take k).map Tg.lab).any (fun y => decide (y = lab)) = false := h
  rw [h']; simp [hn]
set_option maxRecDepth 100000 in
set_option maxHeartbeats 1000000 in
theorem indexRule_any (A : Option Addr) (n m c B b : Nat) (ts : List Tg) (cs : Array Value) (lab : ByteArray) (w : World) (h0 : Sl w B 4 A n (flat rlC ts)) (hB : B ≤ w.heap.size) (hm : m ≤ n) (hn : n ≤ 1000000) (hc : Bk w b 60 cs) (h1 : cs[1]? = some (.string lab)) :
    Calls Tryz.prog 167 #[.slice A m c, .func (.func 116) #[] #[.pointer (some ⟨b, 0, none⟩)]] w fun e w' => ∃ z : Int, e = .returned (.int .i64 z) ∧ decide (0 ≤ z) = memB ((ts.take m).map Tg.lab) lab ∧ Below w.heap.size w w' := by
  have HL := Lib.hid (h0.len rlC_len (by omega))
  have H0 := Lib.hid h0; have HC := Lib.hid hc
  clear h0 hc
  go_enter Tryz.func167, Tryz.ntmps167
  go_wp2
  go_loopw [8] (fun i wr => ∃ k : Nat, k ≤ m ∧ i = .int .i64 k ∧ Hid (memB ((ts.take k).map Tg.lab) lab = false) ∧ Hid (Below w.heap.size w wr)) (fun i _ => m - (intOf i).toNat)
  case atStart => exact ⟨0, Nat.zero_le _, rfl, rfl, Below.refl _ _⟩
  case round =>
    obtain ⟨k, hk, rfl, hF, hBel⟩ := hrel
    by_cases hlt : k < m
    · obtain ⟨bb, off, t, rfl, hbB, ht, y0, y1, y2, y3⟩ := (H0.out.below hBel.out hB).rl (show k < n by omega)
      have hlz : (k : Int) < (m : Int) := by omega
      have HI := Lib.hid (check1_any t b cs lab wr (HC.out.below hBel.out HC.out.lt) h1)
      have HT := Lib.hid ht
      clear ht
      by_cases e : t.lab = lab
      · have HE : Hid (memB ((ts.take m).map Tg.lab) lab = true) := by
          show _ = _
          rw [memB_iff, List.mem_map]
          exact ⟨t, List.mem_iff_getElem?.2 ⟨k, by rw [List.getElem?_take, if_pos hlt]; exact HT.out⟩, e⟩
        have hd : decide (t.lab = lab) = true := by simp [e]
        rw [hd] at HI
        clear e hd
        obtain ⟨tl, kind, dA, dn, dc, deps, vA, vn, vc, vis⟩ := t
        simp only [rlV] at HI y0 y1 y2 y3
        go_wp2_with (go_at_call 116; refine HI.out.mono ?_; rintro e w1 ⟨rfl, hb1⟩)
        go_ret
        exact ⟨k, rfl, by rw [HE.out]; simp, hBel.out.trans (hb1.mono hBel.out.size)⟩
      · have HE := Lib.hid (names_pass hF.out HT.out e)
        have hd : decide (t.lab = lab) = false := by simp [e]
        rw [hd] at HI
        clear e hd
        obtain ⟨tl, kind, dA, dn, dc, deps, vA, vn, vc, vis⟩ := t
        simp only [rlV] at HI y0 y1 y2 y3
        go_wp2_with (go_at_call 116; refine HI.out.mono ?_; rintro e w1 ⟨rfl, hb1⟩)
        go_roundw
        case rel => exact ⟨k + 1, by omega, by go_num, HE.out, hBel.out.trans (hb1.mono hBel.out.size)⟩
        case measure => simp [intOf]; omega
    · have hlz : ¬ (k : Int) < (m : Int) := by omega
      have ek : k = m := by omega
      subst ek
      go_wp2
      go_ret
      exact ⟨-1, rfl, by rw [← List.map_take, hF.out]; decide, hBel.out⟩
set_option maxHeartbeats 400000 in
theorem containsRule_any (A : Option Addr) (n m c B b : Nat) (ts : List Tg) (cs : Array Value) (lab : ByteArray) (w : World) (h0 : Sl w B 4 A n (flat rlC ts)) (hB : B ≤ w.heap.size) (hm : m ≤ n) (hn : n ≤ 1000000) (hc : Bk w b 60 cs) (h1 : cs[1]? = some (.string lab)) :
    Calls Tryz.prog 115 #[.slice A m c, .func (.func 116) #[] #[.pointer (some ⟨b, 0, none⟩)]] w fun e w' => e = .returned (.bool (memB ((ts.take m).map Tg.lab) lab)) ∧ Below w.heap.size w w' := by
  have HI := Lib.hid (indexRule_any A n m c B b ts cs lab w h0 hB hm hn hc h1)
  clear h0 hc h1
  go_enter Tryz.func115, Tryz.ntmps115
  go_wp2_with (go_at_call 167; refine HI.out.mono ?_; rintro e w2 ⟨z, rfl, hz, hb⟩; have HZ := Lib.hid hz; clear hz)
  go_ret
  exact ⟨ret_bool HZ.out, hb⟩
set_option maxRecDepth 100000 in
set_option maxHeartbeats 2000000 in
theorem check_g (A : Option Addr) (n c B : Nat) (l : List Tg) (w : World) (h : Sl w B 4 A n (flat rlC l)) (hok : ∀ t ∈ l, TgOk w B t) (hB : B ≤ w.heap.size) (hn : n ≤ c) (hc : c ≤ maxLen) :
    Calls Tryz.prog 81 #[.slice A n c] w fun e w' => e = .returned (.int .i64 (checkE l)) ∧ Below w.heap.size w w' := by
  have HL := Lib.hid (h.len rlC_len (by omega))
  have H := Lib.hid h; have HO := Lib.hid hok
  clear h hok
  have hnm : n ≤ 9223372036854775807 := by unfold maxLen at hc; omega
  go_enter Tryz.func81, Tryz.ntmps81
  by_cases h100 : 100 < n
  · have hz : (100 : Int) < (n : Int) := by omega
    have hF : Hid (checkE l = 4) := by show _ = _; unfold checkE; rw [if_pos (by rw [HL.out]; exact h100)]
    go_wp2_with fail
    go_ret
    exact ⟨ret_int hF.out.symm, Below.refl _ _⟩
  have hz : ¬ (100 : Int) < (n : Int) := by omega
  have hF0 : Hid (checkE l = chkE ((l.take 0).map Tg.lab) (l.drop 0)) := by show _ = _; unfold checkE; rw [if_neg (by rw [HL.out]; exact h100)]; rfl
  go_wp2
  go_loopw [11] (fun i wr => ∃ k : Nat, k ≤ n ∧ i = .int .i64 k ∧ Hid (checkE l = chkE ((l.take k).map Tg.lab) (l.drop k)) ∧ Hid (Below w.heap.size w wr)) (fun i _ => n - (intOf i).toNat)
  case atStart => exact ⟨0, Nat.zero_le _, rfl, hF0.out, Below.refl _ _⟩
  case round =>
    obtain ⟨k, hk, rfl, hE, hBel⟩ := hrel
    by_cases hlt : k < n
    · obtain ⟨bb, off, t, rfl, hbB, ht, y0, y1, y2, y3⟩ := (H.out.below hBel.out hB).rl hlt
      have hlz : (k : Int) < (n : Int) := by omega
      have HT := Lib.hid ht
      have HTK := Lib.hid (chkE_take ht)
      have HOK := HO.out t (List.mem_of_getElem? ht)
      clear ht
      have HB0 : Hid (Below wr.heap.size wr (wr.alloc (.cells #[.int .i64 t.kind, .string t.lab, .slice t.dA t.dn t.dc, .slice t.vA t.vn t.vc] 60))) := (Below.refl _ wr).alloc (Nat.le_refl _) _
      have HK0 := Lib.hid (Bk.new wr 60 #[.int .i64 t.kind, .string t.lab, .slice t.dA t.dn t.dc, .slice t.vA t.vn t.vc])
      have HC := Lib.hid (checkRule_g B t (wr.alloc (.cells #[.int .i64 t.kind, .string t.lab, .slice t.dA t.dn t.dc, .slice t.vA t.vn t.vc] 60)) (HOK.below (hBel.out.trans (HB0.out.mono hBel.out.size)) hB) (by have := hBel.out.size; simp; omega))
      have HSL : Hid (∀ w' : World, (Instr.sliceAt 58 (.slice (some ⟨bb, off, none⟩) n c) none (some (.int .i64 k)) none).run Tryz.prog w' = .ok (.slice (some ⟨bb, off, none⟩) k c) w') := fun w' => by
        obtain ⟨i0, hi0, _⟩ := info_parts infoRule
        exact run_slice_to 58 i0 Tryz.underlying58 hi0 _ n c k (by omega) w'
      clear HOK
      by_cases hv : ruleE t = 0
      · rw [hv] at HC
        have HE2 : Hid (checkE l = if memB ((l.take k).map Tg.lab) t.lab then 7 else chkE ((l.take (k + 1)).map Tg.lab) (l.drop (k + 1))) := by show _ = _; rw [hE.out, HTK.out, if_neg (fun h => h hv)]
        clear hv HTK
        obtain ⟨tl, kind, dA, dn, dc, deps, vA, vn, vc, vis⟩ := t
        simp only [rlV] at HC y0 y1 y2 y3 HB0 HK0 HE2
        go_wp2_with (go_at_call 114; refine HC.out.mono ?_; rintro e w2 ⟨rfl, hb2⟩; refine halt_ ?_)
        refine unhalt ?_
        have HB2 : Hid (Below w.heap.size w w2) := hBel.out.trans ((HB0.out.trans (hb2.mono (by simp))).mono hBel.out.size)
        have HK2 := Lib.hid (HK0.out.below hb2 (by simp))
        have hsl := HSL.out
        have HCC := Lib.hid (containsRule_any (some ⟨bb, off, none⟩) n k c B wr.heap.size l _ tl w2 (H.out.below HB2.out hB) (Nat.le_trans hB HB2.out.size) hk (by omega) HK2.out rfl)
        clear hb2
        cases hm : memB ((l.take k).map Tg.lab) tl with
        | true =>
          have hF : Hid (checkE l = 7) := by show _ = _; rw [HE2.out, hm]; rfl
          rw [hm] at HCC
          clear hm
          go_wp2_with (go_at_call 115; refine HCC.out.mono ?_; rintro e w3 ⟨rfl, hb3⟩)
          go_ret
          exact ⟨ret_int hF.out.symm, HB2.out.trans (hb3.mono HB2.out.size)⟩
        | false =>
          have hF : Hid (checkE l = chkE ((l.take (k + 1)).map Tg.lab) (l.drop (k + 1))) := by show _ = _; rw [HE2.out, hm]; rfl
          rw [hm] at HCC
          clear hm
          go_wp2_with (go_at_call 115; refine HCC.out.mono ?_; rintro e w3 ⟨rfl, hb3⟩)
          go_roundw
          case rel => exact ⟨k + 1, hlt, by go_num, hF.out, HB2.out.trans (hb3.mono HB2.out.size)⟩
          case measure => simp [intOf]; omega
      · have hF : Hid (checkE l = ruleE t) := by show _ = _; rw [hE.out, HTK.out, if_pos hv]
        have hv' : (ruleE t != 0) = true := by simpa using hv
        obtain ⟨v, hve⟩ : ∃ v, ruleE t = v := ⟨_, rfl⟩
        rw [hve] at HC hv' hF
        clear hv hve HTK
        obtain ⟨tl, kind, dA, dn, dc, deps, vA, vn, vc, vis⟩ := t
        simp only [rlV] at HC y0 y1 y2 y3 HB0 HK0
        go_wp2_with (go_at_call 114; refine HC.out.mono ?_; rintro e w2 ⟨rfl, hb2⟩)
        go_ret
        exact ⟨ret_int hF.out.symm, hBel.out.trans ((HB0.out.trans (hb2.mono (by simp))).mono hBel.out.size)⟩
    · have hlz : ¬ (k : Int) < (n : Int) := by omega
      have hF : Hid (checkE l = 0) := by show _ = _; rw [hE.out, List.drop_of_length_le (by rw [HL.out]; omega)]; rfl
      go_wp2
      go_ret
      exact ⟨ret_int hF.out.symm, hBel.out⟩
end Go.Proofs.YtddlohbhchjjhaaGreatDoor

namespace Go.Proofs.YtddlohbhchjjhaaGreatDoor
open Go.RowKit

def Apd (w : World) (base : Nat) (e : TypeId) (size : Nat) (A : Option Addr) (n c : Nat) (xs : List Value) : Prop :=
  w.ownsRow base e size (.slice A n c) n xs ∨ (n = 0 ∧ c = 0 ∧ xs = [])

section
variable {P : Program} {w w' : World} {base size n c : Nat} {e : TypeId} {A : Option Addr} {xs : List Value}
theorem Apd.sl (h : Apd w base e size A n c xs) : Sl w w.heap.size size A n xs := by
  rcases h with h | ⟨rfl, rfl, rfl⟩
  · exact Sl.of_own h
  · exact Sl.nil _ _ _ _
theorem Apd.below (h : Apd w base e size A n c xs) (hb : Below w.heap.size w w') : Apd w' base e size A n c xs := by
  rcases h with h | h
  · exact .inl (h.kept (row := none) ⟨hb.os, hb.tape, hb.output, hb.size, fun k hk _ => hb.block k hk⟩ (by
      cases hv : (Value.slice A n c).ownBlock with
      | none => exact .inl rfl
      | some k => exact .inr (by simp)))
  · exact .inr h
theorem Apd.setCell (h : Apd w base e size A n c xs) {a : Addr} (ha : a.block < base) (u : Value) : Apd (w.setCell a u) base e size A n c xs := by
  rcases h with h | h
  · exact .inl (ownsRow_setCell_below h ha u)
  · exact .inr h
theorem below_of_none (hg : w.grownBy w' none) : Below w.heap.size w w' := ⟨hg.os, hg.tape, hg.output, hg.size, fun k hk => hg.block k hk (by simp)⟩

theorem run_append_empty (t ty : TypeId) (i : TypeInfo) (z : Value) (bytes : Nat) (ht : P.underlying t = some (.slice e)) (hi : P.info? e = some i) (hz : i.zero = some z)
    (hsize : i.size = size) (hby : i.bytes = bytes) (hzs : z.cells.size = size) (hsz : 0 < size)
    {B : Nat} {A' : Option Addr} {m c' : Nat} {ys : List Value} (hsl : Sl w B size A' m ys) (h1 : ∀ u ∈ ys, u.oneCell' = true)
    (h63 : m ≤ maxLen) (hbytes : m * bytes ≤ 140737488355328) (hbase : base ≤ w.heap.size) (A : Option Addr) :
    ∃ A2 c2 w', (Builtin.append_ #[t, t] ty #[.slice A 0 0, .slice A' m c']).run P w = .ok (.slice A2 m c2) w' ∧ Apd w' base e size A2 m c2 ys ∧ Below w.heap.size w w' ∧ m ≤ c2 ∧ c2 ≤ maxLen := by
  rcases Nat.eq_zero_or_pos m with h | hm
  · subst h
    have hy : ys = [] := by
      have := hsl.1; rw [Nat.zero_mul] at this; exact List.length_eq_zero_iff.1 this
    subst hy
    refine ⟨A, 0, w, ?_, .inr ⟨rfl, rfl, rfl⟩, Below.refl _ _, Nat.le_refl _, Nat.zero_le _⟩
    cases A <;> cases A' <;> simp [Builtin.append_, run_underlying ht, sizeOf, typeInfo, hi, Builtin.lenOf, Builtin.firstCells, loadCells, loadCellsFrom, storeCells]
  · -- as onto nil
    have hrun : (Builtin.append_ #[t, t] ty #[.slice A 0 0, .slice A' m c']).run P w = (Builtin.append_ #[t, t] ty #[.slice none 0 0, .slice A' m c']).run P w := by
      obtain ⟨b, off, rfl, _, _⟩ := hsl.2 hm
      cases A with
      | none => rfl
      | some ad =>
        have hroom : ¬ m = 0 := by omega
        have hfit : ¬ 281474976710656 < Builtin.nextslicecap m 0 * i.bytes := by
          have := growslice_fits (old := 0) (need := m) (bytes := bytes) (by omega) hbytes
          rw [hby]; omega
        simp [Builtin.append_, run_underlying ht, sizeOf, typeInfo, hi, Builtin.lenOf, Builtin.firstCells, loadCells, loadCellsFrom, hroom, hfit]
    obtain ⟨A2, c2, w2, hr, ho, hg, hc1, hc2⟩ := run_append_sl (P := P) (base := base) (v := .slice none 0 0) (n := 0) (xs := []) t ty i z bytes ht hi hz hsize hby hzs hsz (World.ownsRow_nil w base e size) (c := c') hsl h1 (by omega) (by rw [Nat.zero_add]; exact hbytes) hbase
    simp only [Nat.zero_add, List.nil_append] at hr ho hc1
    exact ⟨A2, c2, w2, hrun.trans hr, .inl ho, below_of_none hg, hc1, hc2⟩

def OthersKept (e : TypeId) (w w' : World) : Prop := ∀ (base size n : Nat) (e' : TypeId) (v : Value) (xs : List Value), e' ≠ e → w.ownsRow base e' size v n xs → w'.ownsRow base e' size v n xs
theorem run_append_apd (t ty : TypeId) (i : TypeInfo) (z : Value) (bytes : Nat) (ht : P.underlying t = some (.slice e)) (hi : P.info? e = some i) (hz : i.zero = some z)
    (hsize : i.size = size) (hby : i.bytes = bytes) (hzs : z.cells.size = size) (hsz : 0 < size) (ha : Apd w base e size A n c xs)
    {B : Nat} {A' : Option Addr} {m c' : Nat} {ys : List Value} (hsl : Sl w B size A' m ys) (h1 : ∀ u ∈ ys, u.oneCell' = true)
    (h63 : n + m ≤ maxLen) (hbytes : (n + m) * bytes ≤ 140737488355328) (hbase : base ≤ w.heap.size) :
    ∃ A2 c2 w', (Builtin.append_ #[t, t] ty #[.slice A n c, .slice A' m c']).run P w = .ok (.slice A2 (n + m) c2) w' ∧ Apd w' base e size A2 (n + m) c2 (xs ++ ys) ∧ Below base w w' ∧ n + m ≤ c2 ∧ c2 ≤ maxLen ∧ OthersKept e w w' := by
  rcases ha with h | ⟨rfl, rfl, rfl⟩
  · obtain ⟨A2, c2, w2, hr, ho, hg, hc1, hc2⟩ := run_append_sl (P := P) t ty i z bytes ht hi hz hsize hby hzs hsz h (c := c') hsl h1 h63 hbytes hbase
    exact ⟨A2, c2, w2, hr, .inl ho, (Below.refl _ w).grown hg hbase (fun k hk => ownBlock_ge h k hk), hc1, hc2, fun _ _ _ _ _ _ hne h' => h'.kept hg (ownsRow_apart h h' hne)⟩
  · obtain ⟨A2, c2, w2, hr, ho, hg, hc1, hc2⟩ := run_append_empty (P := P) (base := base) t ty i z bytes ht hi hz hsize hby hzs hsz (c' := c') hsl h1 (by omega) (by rw [Nat.zero_add] at hbytes; exact hbytes) hbase A
    rw [Nat.zero_add, List.nil_append]
    exact ⟨A2, c2, w2, hr, ho, hg.mono hbase, hc1, hc2, fun _ _ _ _ v _ _ h' => h'.kept (row := none) ⟨hg.os, hg.tape, hg.output, hg.size, fun k hk _ => hg.block k hk⟩ (by cases hv : v.ownBlock with | none => exact .inl rfl | some k => exact .inr (by simp))⟩

theorem wpList_append_apd (w : World) {ops : Array Oper} {rest : List Oper} {o : Oper} {a : Act} {Q : Exit → Act → World → Prop} (hgd : o.guard = none) (s x : Operand) (t : TypeId)
    (ho : o.op = .call { callee := .builtin .append, args := #[s, x], argTypes := #[t, t] })
    (e : TypeId) (i : TypeInfo) (z : Value) (bytes : Nat) (ht : P.underlying t = some (.slice e)) (hi : P.info? e = some i) (hz : i.zero = some z)
    (hsize : i.size = size) (hby : i.bytes = bytes) (hzs : z.cells.size = size) (hsz : 0 < size)
    (A : Option Addr) (n c : Nat) (xs : List Value) (hs : a.eval s = .slice A n c) (hown : Apd w base e size A n c xs)
    (B : Nat) (A' : Option Addr) (m c' : Nat) (ys : List Value) (hx : a.eval x = .slice A' m c') (hsl : Sl w B size A' m ys) (h1 : ∀ u ∈ ys, u.oneCell' = true)
    (h63 : n + m ≤ maxLen) (hbytes : (n + m) * bytes ≤ 140737488355328) (hbase : base ≤ w.heap.size)
    (h : ∀ A2 c2 w', Apd w' base e size A2 (n + m) c2 (xs ++ ys) → Below base w w' → n + m ≤ c2 → c2 ≤ maxLen → OthersKept e w w' → wpList P ops Q rest (a.put o.dst (.slice A2 (n + m) c2)) w') : wpList P ops Q (o :: rest) a w := by
  refine wpList_plain hgd fun K hK => ?_
  obtain ⟨A2, c2, w', hr, ho', hg, hc1, hc2, hok⟩ := run_append_apd (P := P) t o.type i z bytes ht hi hz hsize hby hzs hsz hown (c' := c') hsl h1 h63 hbytes hbase
  unfold Oper.wp
  simp [execOp, ho, resolve, invoke, builtin, hs, hx, hr, Result.andThen]
  exact hK _ _ (h A2 c2 w' ho' hg hc1 hc2 hok)
end
end Go.Proofs.YtddlohbhchjjhaaGreatDoor

namespace Go.Proofs.YtddlohbhchjjhaaGreatDoor
open Go.RowKit

def Que (w : World) (base : Nat) (e : TypeId) (size : Nat) (A : Option Addr) (n c : Nat) (xs : List Value) : Prop :=
  xs.length = n * size ∧ ((n = 0 ∧ c = 0) ∨ ∃ g off cur, A = some ⟨g, off, none⟩ ∧ base ≤ g ∧ w.heap[g]? = some (.cells cur e (0, 0)) ∧ n ≤ c ∧ c ≤ maxLen ∧ cur.size = off + c * size ∧ (cur.toList.drop off).take (n * size) = xs)
section
variable {P : Program} {w w' : World} {base size n c : Nat} {e : TypeId} {A : Option Addr} {xs : List Value}
theorem Que.of_own (h : w.ownsRow base e size (.slice A n c) n xs) : Que w base e size A n c xs := by
  refine ⟨h.1, ?_⟩
  rcases h.2 with ⟨hv, h0⟩ | ⟨g, cap, cur, hv, h1, h2, h3, h4, h5, h6⟩
  · simp at hv; exact .inl ⟨h0, hv.2.2⟩
  · simp at hv
    obtain ⟨rfl, rfl⟩ := hv
    exact .inr ⟨g, 0, cur, rfl, h1, h2, h3, h4, by omega, by simpa using h6⟩
theorem Que.more {base' : Nat} (h : Que w base e size A n c xs) (hb : base' ≤ base) : Que w base' e size A n c xs := by
  obtain ⟨h0, h | ⟨g, off, cur, h1, h2, h3⟩⟩ := h
  · exact ⟨h0, .inl h⟩
  · exact ⟨h0, .inr ⟨g, off, cur, h1, by omega, h3⟩⟩
theorem Que.le (h : Que w base e size A n c xs) : n ≤ c ∧ c ≤ maxLen := by
  obtain ⟨h0, ⟨rfl, rfl⟩ | ⟨g, off, cur, h1, h2, h3, h4, h5, _⟩⟩ := h
  · exact ⟨Nat.le_refl _, Nat.zero_le _⟩
  · exact ⟨h4, h5⟩
theorem Que.keep (h : Que w base e size A n c xs) (hk : ∀ (g : Nat) (cur : Array Value), w.heap[g]? = some (Obj.cells cur e (0, 0)) → w'.heap[g]? = w.heap[g]?) : Que w' base e size A n c xs := by
  obtain ⟨h0, h | ⟨g, off, cur, h1, h2, h3, h4⟩⟩ := h
  · exact ⟨h0, .inl h⟩
  · exact ⟨h0, .inr ⟨g, off, cur, h1, h2, (hk g cur h3).trans h3, h4⟩⟩
theorem Que.sl (h : Que w base e size A n c xs) : Sl w w.heap.size size A n xs := by
  obtain ⟨h0, ⟨rfl, rfl⟩ | ⟨g, off, cur, h1, h2, h3, h4, h5, h6, h7⟩⟩ := h
  · exact ⟨h0, fun h => absurd h (by omega)⟩
  · refine ⟨h0, fun _ => ⟨g, off, h1, (Array.getElem?_eq_some_iff.1 h3).1, fun j u hu => ?_⟩⟩
    rw [← h7, List.getElem?_take] at hu
    split at hu
    · rw [List.getElem?_drop] at hu
      simp [World.cell?, h3]
      simpa using hu
    · cases hu
theorem Que.tail {g off : Nat} (h : Que w base e size (some ⟨g, off, none⟩) (n + 1) c xs) : Que w base e size (some ⟨g, off + size, none⟩) n (c - 1) (xs.drop size) := by
  obtain ⟨h0, ⟨h1, _⟩ | ⟨g', off', cur, h1, h2, h3, h4, h5, h6, h7⟩⟩ := h
  · omega
  · simp at h1
    obtain ⟨rfl, rfl⟩ := h1
    have hc : c * size = (c - 1) * size + size := by
      have : c = (c - 1) + 1 := by omega
      rw [this, Nat.add_mul]; simp
    have hn : (n + 1) * size = n * size + size := by rw [Nat.add_mul]; simp
    refine ⟨by rw [List.length_drop, h0, hn]; omega, .inr ⟨g, off + size, cur, rfl, h2, h3, by omega, by omega, by omega, ?_⟩⟩
    rw [← h7, hn, List.drop_take, List.drop_drop]
    congr 1
    omega
theorem run_append_que (t ty : TypeId) (i : TypeInfo) (z : Value) (bytes : Nat) (ht : P.underlying t = some (.slice e)) (hi : P.info? e = some i) (hz : i.zero = some z)
    (hsize : i.size = size) (hby : i.bytes = bytes) (hzs : z.cells.size = size) (hsz : 0 < size) (ha : Que w base e size A n c xs)
    {B : Nat} {A' : Option Addr} {m c' : Nat} {ys : List Value} (hsl : Sl w B size A' m ys) (h1 : ∀ u ∈ ys, u.oneCell' = true) (hm : 0 < m)
    (h63 : n + m ≤ maxLen) (hbytes : (n + m) * bytes ≤ 140737488355328) (hbase : base ≤ w.heap.size) :
    ∃ A2 c2 w' row, (Builtin.append_ #[t, t] ty #[.slice A n c, .slice A' m c']).run P w = .ok (.slice A2 (n + m) c2) w' ∧ Que w' base e size A2 (n + m) c2 (xs ++ ys) ∧ w.grownBy w' row ∧ (∀ g, row = some g → base ≤ g ∧ (∃ cur, w.heap[g]? = some (.cells cur e (0, 0))) ∧ c ≠ 0 ∧ ∃ off, A = some ⟨g, off, none⟩) ∧ ∀ g off, A2 = some ⟨g, off, none⟩ → (c ≠ 0 ∧ ∃ off, A = some ⟨g, off, none⟩) ∨ w.heap.size ≤ g := by
  obtain ⟨h0, ⟨rfl, rfl⟩ | ⟨g, off, cur, rfl, h2, h3, h4, h5, h6, h7⟩⟩ := ha
  · have hx : xs = [] := List.eq_nil_of_length_eq_zero (by simpa using h0)
    subst hx
    obtain ⟨A2, c2, w2, hr, ho, hg, hc1, hc2⟩ := run_append_empty (P := P) (base := w.heap.size) t ty i z bytes ht hi hz hsize hby hzs hsz (c' := c') hsl h1 (by omega) (by rw [Nat.zero_add] at hbytes; exact hbytes) (Nat.le_refl _) A
    rw [Nat.zero_add, List.nil_append]
    rcases ho with ho | ⟨e1, _⟩
    · refine ⟨A2, c2, w2, none, hr, (Que.of_own ho).more hbase, ⟨hg.os, hg.tape, hg.output, hg.size, fun k hk _ => hg.block k hk⟩, (fun g h => by cases h), fun g off e => .inr ?_⟩
      subst e
      exact (ho.lt g rfl).1
    · omega
  · obtain ⟨b', off', rfl, hb', hcy⟩ := hsl.2 hm
    have hnews : ∀ j u, ys[j]? = some u → w.cell? (Addr.add ⟨b', off', none⟩ j) = some u := fun j u hj => by rw [Addr.add_lit]; exact hcy j u hj
    by_cases hroom : n + m ≤ c
    · subst hsize
      have hf := run_firstCells_some (P := P) w i.size m ⟨b', off', none⟩ m c' ys hsl.1 hnews
      have hfit : off + n * i.size + ys.length ≤ cur.size := by
        rw [hsl.1, h6, Nat.add_assoc, ← Nat.add_mul]; exact Nat.add_le_add_left (Nat.mul_le_mul_right _ hroom) _
      have hst := run_storeCells_at P g (off + n * i.size) e ys 0 cur w h3 (by simpa using hfit) h1
      simp only [Nat.add_zero] at hst
      refine ⟨some ⟨g, off, none⟩, c, w.setRow g (cur.toList.take (off + n * i.size) ++ ys ++ cur.toList.drop (off + n * i.size + ys.length)).toArray, some g, ?_, ?_, ⟨rfl, rfl, rfl, by simp, fun k _ hk => setRow_other w g k _ (fun e => hk (by simp [e]))⟩, (fun g' e' => by cases e'; exact ⟨h2, ⟨cur, h3⟩, by omega, off, rfl⟩), fun g' o' e' => .inl ⟨by omega, off, by cases e'; rfl⟩⟩
      · simp [Builtin.append_, run_underlying ht, sizeOf, typeInfo, hi, Builtin.lenOf, hroom, hf, Addr.add_lit, hst]
      · have hlen : (xs ++ ys).length = (n + m) * i.size := by rw [List.length_append, h0, hsl.1, Nat.add_mul]
        refine ⟨hlen, .inr ⟨g, off, _, rfl, h2, setRow_heap w g cur _ e _ h3, hroom, h5, ?_, ?_⟩⟩
        · simp only [List.size_toArray, List.length_append, List.length_take, List.length_drop, Array.length_toList]
          omega
        · have e1 : cur.toList.take (off + n * i.size) = cur.toList.take off ++ xs := by rw [← h7, List.take_add]
          have e2 : (cur.toList.take off).length = off := by rw [List.length_take, Array.length_toList]; omega
          simp only [e1, List.append_assoc]
          rw [List.drop_append_of_le_length (by omega), List.drop_of_length_le (by omega), List.nil_append, ← List.append_assoc, ← hlen]
          exact List.take_left
    · obtain ⟨v', w2, hrun, r1, r2⟩ := run_append_arg_grows (P := P) w t ty e i z size bytes ht hi hz hsize hby hzs hsz ⟨g, off, none⟩ n c xs h0 (fun j u hj => by
        rw [Addr.add_lit]
        have := (Que.sl (w := w) (base := base) (e := e) (c := c) ⟨h0, .inr ⟨g, off, cur, rfl, h2, h3, h4, h5, h6, h7⟩⟩).2
        rcases Nat.eq_zero_or_pos n with hn | hn
        · subst hn
          have hx : xs = [] := List.eq_nil_of_length_eq_zero (by simpa using h0)
          subst hx; simp at hj
        · obtain ⟨b1, o1, e1, _, hc1⟩ := this hn
          simp at e1
          obtain ⟨rfl, rfl⟩ := e1
          exact hc1 j u hj) ⟨b', off', none⟩ m c' ys hsl.1 hnews (by omega) h63 hbytes
      rcases r1.2 with ⟨_, h8⟩ | ⟨g2, cap2, cur2, rfl, h8, _⟩
      · omega
      · exact ⟨_, cap2, w2, none, hrun, (Que.of_own r1).more hbase, r2, (fun g h => by cases h), fun g' o' e' => .inr (by cases e'; exact h8)⟩
end
end Go.Proofs.YtddlohbhchjjhaaGreatDoor
