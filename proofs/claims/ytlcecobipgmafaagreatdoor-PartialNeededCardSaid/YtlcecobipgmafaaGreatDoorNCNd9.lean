/-
  Lemmas of the card.
-/
import Derived.WideKeyPair
import Derived.Sort.LoopGhostIn
import Derived.Maps.OwnIn
import Derived.StillTailTactics
import Derived.Deep.CutRange
import Derived.Test.YtlcecobipgmafaaGreatDoorNCNd8
import Derived.Test.YtlcecobipgmafaaGreatDoorNCNd2
import Derived.Test.YtlcecobipgmafaaGreatDoorNCNd4
import Derived.Test.YtlcecobipgmafaaGreatDoorNCNd5
import Derived.Test.YtlcecobipgmafaaGreatDoorNCNd7
import Derived.Test.YtlcecobipgmafaaGreatDoorNCNd1
set_option maxRecDepth 100000
set_option maxHeartbeats 16000000
namespace Go.Proofs.YtlcecobipgmafaaGreatDoor
open Go.RowKit
section
open Go.Maps
structure KeyE {α : Type} (P : Program) (k : TypeId) (enc : α -> Value) (sb : α -> List UInt8) (ok : α -> Prop) : Prop where
 law : WideMaps.KeyLaw P k
 of : ∀ a, ok a -> keyOf P k (enc a) = some (.string (sb a))
 inv : ∀ v l, keyOf P k v = some l -> ∃ a, ok a /\ v = enc a
 inj : ∀ a b, enc a = enc b -> a = b
theorem KeyE.sb_inj {α : Type} {P : Program} {k : TypeId} {enc : α -> Value} {sb : α -> List UInt8} {ok : α -> Prop} (E : KeyE P k enc sb ok) {a b : α} (ha : ok a) (hb : ok b) (h : sb a = sb b) : a = b :=
 E.inj _ _ (E.law.inj (E.of a ha) (by rw [h]; exact E.of b hb))
theorem KeyE.lit_ne {α : Type} {P : Program} {k : TypeId} {enc : α -> Value} {sb : α -> List UInt8} {ok : α -> Prop} (E : KeyE P k enc sb ok) {a b : α} (ha : ok a) (hb : ok b) (h : a ≠ b) : Lit.string (sb a) ≠ .string (sb b) :=
 fun e => h (E.sb_inj ha hb (by injection e))
def Gm {α : Type} (w : World) (P : Program) (k : TypeId) (sb : α -> List UInt8) (ok : α -> Prop) (b N : Nat) (g : α -> Option Value) : Prop :=
 ∃ D : DataW Value, w.ownsMap P k dI b N D /\ ∀ a, ok a -> Maps.has D (.string (sb a)) = (g a).isSome /\ ∀ z, D.atKey (.string (sb a)) (.held z) = .held ((g a).getD z)
def fO {α : Type} [DecidableEq α] (g : α -> Option Value) (s : α) (v : Value) : α -> Option Value := fun t => if t = s then some v else g t
theorem Bg {α : Type} [DecidableEq α] (g : α -> Option Value) (s : α) (v : Value) : fO g s v s = some v := by simp [fO]
theorem Ai {α : Type} [DecidableEq α] (g : α -> Option Value) {s t : α} (v : Value) (h : t ≠ s) : fO g s v t = g t := by simp [fO, h]
section
variable {α : Type} [DecidableEq α] {w w' : World} {P : Program} {k t e : TypeId} {enc : α -> Value} {sb : α -> List UInt8} {ok : α -> Prop} {b N : Nat} {g : α -> Option Value}
omit [DecidableEq α] in
theorem Gm.made (w : World) (P : Program) (k : TypeId) (sb : α -> List UInt8) (ok : α -> Prop) : Gm (w.alloc (.map #[] 0)) P k sb ok w.heap.size 0 (fun _ => none) :=
 ⟨.map [], World.ownsMap_made w P k dI, fun _ _ => ⟨rfl, fun _ => rfl⟩⟩
omit [DecidableEq α] in
theorem Gm.lt (h : Gm w P k sb ok b N g) : b < w.heap.size := h.choose_spec.1.lt
omit [DecidableEq α] in
theorem Gm.more (h : Gm w P k sb ok b N g) {M : Nat} (hm : N <= M) : Gm w P k sb ok b M g := by
 obtain ⟨D, h1, h2⟩ := h; exact ⟨D, h1.mono hm, h2⟩
omit [DecidableEq α] in
theorem Gm.kept {row : Option Nat} (h : Gm w P k sb ok b N g) (hg : w.grownBy w' row) (hr : some b ≠ row) : Gm w' P k sb ok b N g := by
 obtain ⟨D, h1, h2⟩ := h; exact ⟨D, h1.kept hg hr, h2⟩
omit [DecidableEq α] in
theorem Gm.block (h : Gm w P k sb ok b N g) (hb : w'.heap[b]? = w.heap[b]?) : Gm w' P k sb ok b N g := by
 obtain ⟨D, ⟨es, clock, h1, h2⟩, h3⟩ := h; exact ⟨D, ⟨es, clock, hb.trans h1, h2⟩, h3⟩
omit [DecidableEq α] in
theorem Gm.below {B : Nat} (h : Gm w P k sb ok b N g) (hb : Below B w w') (hB : b < B) : Gm w' P k sb ok b N g := h.block (hb.block b hB)
omit [DecidableEq α] in
theorem Gm.alloc (h : Gm w P k sb ok b N g) (o : Obj) : Gm (w.alloc o) P k sb ok b N g := h.kept (World.grownBy_alloc w o none) (by simp)
omit [DecidableEq α] in
theorem Gm.ext (h : Gm w P k sb ok b N g) {g' : α -> Option Value} (he : ∀ a, ok a -> g a = g' a) : Gm w P k sb ok b N g' := by
 obtain ⟨D, h1, h2⟩ := h; exact ⟨D, h1, fun a ha => by rw [<- he a ha]; exact h2 a ha⟩
omit [DecidableEq α] in
theorem Gm.setc (h : Gm w P k sb ok b N g) {p : Addr} (hp : b ≠ p.block) {u : Value} : Gm (w.setCell p u) P k sb ok b N g := h.block (Below.heap_setCell _ _ _ _ hp)
omit [DecidableEq α] in
theorem Gm.look (h : Gm w P k sb ok b N g) (E : KeyE P k enc sb ok) (ht : P.underlying t = some (.map k e)) {z : Value} (hz : (zeroValue e).run P w = .ok z w) {s : α} (hs : ok s) :
  (Instr.lookup t (.map (some b)) (enc s) false).run P w = .ok ((g s).getD z) w := by
 obtain ⟨D, h1, h2⟩ := h; obtain ⟨v, ps, hrun, hv⟩ := h1.lookup (Keyed.of_law E.law) ht hz (zd := .held z) (zp := []) rfl (E.of s hs); rw [(h2 s hs).2 z] at hv; rw [hrun, lg hv]
omit [DecidableEq α] in
theorem Gm.look_ok (h : Gm w P k sb ok b N g) (E : KeyE P k enc sb ok) (ht : P.underlying t = some (.map k e)) {z : Value} (hz : (zeroValue e).run P w = .ok z w) {s : α} (hs : ok s) :
  (Instr.lookup t (.map (some b)) (enc s) true).run P w = .ok (.tuple #[(g s).getD z, .bool (g s).isSome]) w := by
 obtain ⟨D, h1, h2⟩ := h; obtain ⟨v, ps, hrun, hv⟩ := h1.look_ok (Keyed.of_law E.law) ht hz (zd := .held z) (zp := []) rfl (E.of s hs); rw [(h2 s hs).2 z] at hv; rw [hrun, lg hv, (h2 s hs).1]
omit [DecidableEq α] in
theorem zH (E : KeyE P k enc sb ok) (ht : P.underlying t = some (.map k e)) {z : Value} (hz : (zeroValue e).run P w = .ok z w) {s : α} (hs : ok s) :
  (Instr.lookup t (.map none) (enc s) false).run P w = .ok z w := by
 simpa using Maps.look_nil (w := w) false (Keyed.of_law E.law) ht hz (E.of s hs)
theorem Gm.put (h : Gm w P k sb ok b N g) (E : KeyE P k enc sb ok) (ht : P.underlying t = some (.map k e)) (hn : N < maxLen) {s : α} (hs : ok s) (v : Value) :
  ∃ w', (Instr.mapUpdate t (.map (some b)) (enc s) v).run P w = .ok () w' /\ Gm w' P k sb ok b (N + 1) (fO g s v) /\ w.grownBy w' (some b) := by
 obtain ⟨D, h1, h2⟩ := h; obtain ⟨w', hrun, ho, hg⟩ := h1.update (Keyed.of_law E.law) ht hn (E.of s hs) (d := .held v) (ps := []) rfl; refine ⟨w', hrun, ⟨_, ho, fun r hr => ?_⟩, hg⟩; have hkl := (Keyed.of_law E.law).key (E.of s hs); by_cases hrs : r = s
 . subst hrs
   rw [Bg, has_put_same h1.isMap hkl]; exact ⟨rfl, fun z => atKey_put_same h1.isMap hkl _ _⟩
 . rw [Ai _ _ hrs, has_put_other (E.lit_ne hr hs hrs)]
   exact ⟨(h2 r hr).1, fun z => (atKey_put_other (E.lit_ne hr hs hrs) _ _).trans ((h2 r hr).2 z)⟩
theorem rR {ops : Array Oper} {rest : List Oper} {o : Oper} {a : Act} {Q : Exit -> Act -> World -> Prop} (hgd : o.guard = none) (m x y : Operand) (t : TypeId) (hop : o.op = Op.mapUpdate t m x y)
  (k e : TypeId) (E : KeyE P k enc sb ok) (ht : P.underlying t = some (.map k e)) (b N : Nat) (g : α -> Option Value) (hm : a.eval m = .map (some b)) (h : Gm w P k sb ok b N g) (hn : N < maxLen)
  (s : α) (hs : ok s) (v : Value) (hx : a.eval x = enc s) (hy : a.eval y = v)
  (hK : ∀ w', Gm w' P k sb ok b (N + 1) (fO g s v) -> w.grownBy w' (some b) -> wpList P ops Q rest (a.put o.dst undef) w') : wpList P ops Q (o :: rest) a w := by
 refine wpList_plain hgd fun K' hK' => ?_; obtain ⟨w', hrun, r1, r2⟩ := h.put E ht hn hs v; unfold Oper.wp; simp [execOp, hop, hm, hx, hy, hrun, Result.andThen]; exact hK' _ _ (hK w' r1 r2)
/-! ### ranging -/
def GmR (w : World) (P : Program) (k : TypeId) (sb : α -> List UInt8) (ok : α -> Prop) (b r N : Nat) (g : α -> Option Value) (left : α -> Bool) (cnt : Nat) : Prop :=
 ∃ (D : DataW Value) (lf : Lit -> Bool), w.ranges P k dI b r N D lf cnt /\ (∀ a, ok a -> Maps.has D (.string (sb a)) = (g a).isSome /\ ∀ z, D.atKey (.string (sb a)) (.held z) = .held ((g a).getD z)) /\ ∀ a, ok a -> lf (.string (sb a)) = left a
variable {r cnt : Nat} {left : α -> Bool}
omit [DecidableEq α] in
theorem GmR.kept {row : Option Nat} (h : GmR w P k sb ok b r N g left cnt) (hg : w.grownBy w' row) (hb : some b ≠ row) (hr : some r ≠ row) : GmR w' P k sb ok b r N g left cnt := by
 obtain ⟨D, lf, ⟨es, clock, since, seen, c0, h1, F, hs, hD, h3, h4⟩, h2, h5⟩ := h; exact ⟨D, lf, ⟨es, clock, since, seen, c0, (hg.block b (Array.getElem?_eq_some_iff.1 h1).1 hb).trans h1, F, hs, hD, (hg.block r (Array.getElem?_eq_some_iff.1 h3).1 hr).trans h3, h4⟩, h2, h5⟩
omit [DecidableEq α] in
theorem GmR.blocks (h : GmR w P k sb ok b r N g left cnt) (hb : w'.heap[b]? = w.heap[b]?) (hr : w'.heap[r]? = w.heap[r]?) : GmR w' P k sb ok b r N g left cnt := by
 obtain ⟨D, lf, ⟨es, clock, since, seen, c0, h1, F, hs, hD, h3, h4⟩, h2, h5⟩ := h; exact ⟨D, lf, ⟨es, clock, since, seen, c0, hb.trans h1, F, hs, hD, hr.trans h3, h4⟩, h2, h5⟩
omit [DecidableEq α] in
theorem GmR.below {B : Nat} (h : GmR w P k sb ok b r N g left cnt) (hw : Below B w w') (hb : b < B) (hr : r < B) : GmR w' P k sb ok b r N g left cnt := h.blocks (hw.block b hb) (hw.block r hr)
omit [DecidableEq α] in
theorem GmR.left_ (h : GmR w P k sb ok b r N g left cnt) : w.rangeLeft b r = cnt := by
 obtain ⟨D, lf, ⟨es, clock, since, seen, c0, h1, F, hs, hD, h3, _, h4, _⟩, _⟩ := h; simp [World.rangeLeft, h1, h3, h4]
omit [DecidableEq α] in
theorem rz {ops : Array Oper} {rest : List Oper} {o : Oper} {a : Act} {Q : Exit -> Act -> World -> Prop} (hgd : o.guard = none) (m : Operand) (t : TypeId) (hop : o.op = Op.range t m)
  (k e : TypeId) (E : KeyE P k enc sb ok) (ht : P.underlying t = some (.map k e)) (b N : Nat) (g : α -> Option Value) (hm : a.eval m = .map (some b)) (h : Gm w P k sb ok b N g)
  (hK : ∀ w' cnt, GmR w' P k sb ok b w.heap.size N g (fun s => (g s).isSome) cnt -> w.grownBy w' none -> w'.heap.size = w.heap.size + 1 -> wpList P ops Q rest (a.put o.dst (.pointer (some ⟨w.heap.size, 0, none⟩))) w') : wpList P ops Q (o :: rest) a w := by
 obtain ⟨D, h1, h2⟩ := h; refine wpList_range_own w hgd m t hop k e (Keyed.of_law E.law) ht dI b N D hm h1 (fun w' h3 h4 h5 => hK w' _ ⟨D, _, h3, h2, fun s hs => (h2 s hs).1⟩ h4 h5)
theorem wI (E : KeyE P k enc sb ok) {s z : α} (hs : ok s) (hz : ok z) : (Lit.string (sb z)).sameKey (.string (sb s)) = decide (z = s) := by
 rw [zJ]; by_cases h : z = s
 . subst h; simp
 . simp only [h, decide_false]
   rw [beq_eq_false_iff_ne]; exact fun e => h (E.sb_inj hz hs e)
theorem rJ {ops : Array Oper} {rest : List Oper} {o : Oper} {a : Act} {Q : Exit -> Act -> World -> Prop} (hgd : o.guard = none) (it : Operand) (hop : o.op = Op.next it false)
  (k : TypeId) (E : KeyE P k enc sb ok) (b r N : Nat) (g : α -> Option Value) (left : α -> Bool) (cnt : Nat) (hit : a.eval it = .pointer (some ⟨r, 0, none⟩)) (h : GmR w P k sb ok b r N g left cnt)
  (hDone : (∀ s, ok s -> left s = false) -> wpList P ops Q rest (a.put o.dst (.tuple #[.bool false])) w)
  (hMore : ∀ (s : α) (v : Value) (w' : World) (cnt' : Nat), ok s -> left s = true -> g s = some v -> GmR w' P k sb ok b r N g (fun z => left z && !decide (z = s)) cnt' -> cnt' < cnt -> w.grownBy w' (some r) -> w'.heap.size = w.heap.size ->
    (Instr.entry (.pointer (some ⟨r, 0, none⟩))).run P w' = .ok (.tuple #[enc s, v]) w' -> wpList P ops Q rest (a.put o.dst (.tuple #[.bool true, enc s, v])) w') : wpList P ops Q (o :: rest) a w := by
 obtain ⟨D, lf, h1, h2, h3⟩ := h; refine wpList_next_ranges (α := {a : α // ok a}) (β := Value) w hgd it hop k (Keyed.of_law E.law) dI (fun s => enc s.1) id (fun key kl hkey => ?_) (fun v y _ => ⟨v, rfl⟩) b r N D lf cnt hit h1
  (fun _ hl => hDone fun s hs => by rw [<- h3 s hs]; exact hl _) (fun s v kl y w' cnt' hkey hlk hv hat hrg hlt hgr hsz hen => ?_)
 . obtain ⟨a, ha, e⟩ := E.inv _ _ hkey; exact ⟨⟨a, ha⟩, e⟩
 . obtain ⟨s, hs⟩ := s
   have e2 : kl = .string (sb s) := by rw [E.of s hs] at hkey; cases hkey; rfl
   subst e2; have hl : left s = true := by rw [<- h3 s hs]; exact hlk
   have hy : y = (.held v, []) := by simp [dI] at hv; exact hv.symm
   subst hy; have hg1 : (g s).isSome = true := by rw [<- (h2 s hs).1]; exact has_true_of_atKey hat
   obtain ⟨u, hu⟩ := Option.isSome_iff_exists.1 hg1; have hg2 : g s = some v := by
    have e1 := (h2 s hs).2 v; rw [hat] at e1; rw [hu] at e1 ⊢; simp at e1; rw [e1]
   exact hMore s v w' cnt' hs hl hg2 ⟨D, _, hrg, h2, fun z hz => by simp only [h3 z hz, wI E hs hz]⟩ hlt hgr hsz hen
end
/-! ### digests as keys -/
def dO (d : Int × Int) : List UInt8 := keyBytes [.int .u64 d.1, .int .u64 d.2]
def bG (d : Int × Int) : Prop := (Lit.int .u64 d.1).wf = true /\ (Lit.int .u64 d.2).wf = true
def dgV (d : Int × Int) : Value := .agg #[.int .u64 d.1, .int .u64 d.2]
theorem Fq {P : Program} {k e : TypeId} (A : WideMaps.ArrKey P k e 2) (he : P.underlying e = some (.int .u64)) (hsz : ∃ m, P.types.size = m + 1) : KeyE P k dgV dO bG where
 law := A.law
 of := fun a ha => WideMaps.keyOf_pair A he hsz ha.1 ha.2
 inv := fun v l h => by
  have hwide := A.wide; obtain ⟨xs, L, rfl, h1, _⟩ := Go.keyOf_top hwide h; obtain ⟨m, hm⟩ := hsz; rw [hm] at h1; unfold Program.keyLits at h1; simp only [A.hu] at h1; split at h1
  . rename_i hl
    rw [A.size] at hl; obtain ⟨xs⟩ := xs
    match xs, hl with
    | [c0, c1], _ =>
      rw [show List.range 2 = [0, 1] from rfl, List.mapM_cons, List.mapM_cons, List.mapM_nil] at h1; simp only [bind, Option.map_eq_some_iff, Option.bind_eq_some_iff, pure, Option.some.injEq, A.one] at h1; obtain ⟨_, ⟨y0, h0, _, ⟨y1, h2, _, rfl, rfl⟩, rfl⟩, _⟩ := h1; have lit1 : ∀ (c : Value) (y : List Lit), P.keyLits (m + 1) e [c] = some y -> ∃ x : Int, c = .int .u64 x /\ (Lit.int .u64 x).wf = true := fun c y h => by
       cases c <;> simp [Program.keyLits, he] at h
       obtain ⟨⟨rfl, hw⟩, _⟩ := h; exact ⟨_, rfl, hw⟩
      obtain ⟨a, rfl, wa⟩ := lit1 c0 _ h0; obtain ⟨b, rfl, wb⟩ := lit1 c1 _ h2; exact ⟨(a, b), ⟨wa, wb⟩, rfl⟩
  . cases h1
 inj := fun a b h => by
  unfold dgV at h; injection h with h; injection h with h; cases a; cases b
  simp at h; simp [h]
/-! ### a digest and a string as a key -/
structure PlaceKey (P : Program) (k td ts e : TypeId) (f0 f1 : Field) : Prop where
 hu : P.underlying k = some (.struct #[f0, f1])
 o0 : f0.offset = 0
 t0 : f0.type = td
 o1 : f1.offset = 2
 t1 : f1.type = ts
 n0 : (f0.name != "_") = true
 n1 : (f1.name != "_") = true
 ck : P.cellsOf k = 3
 cd : P.cellsOf td = 2
 cs : P.cellsOf ts = 1
 ce : P.cellsOf e = 1
 ud : P.underlying td = some (.array 2 e)
 ue : P.underlying e = some (.int .u64)
 us : P.underlying ts = some .string
 kt : P.keyTypeAt 3 k = true
 kk : P.keyType k = true
 ti : P.tiled 3 k = true
 sz : ∃ m, P.types.size = m + 3
def mO (x : (Int × Int) × ByteArray) : List UInt8 := keyBytes [.int .u64 x.1.1, .int .u64 x.1.2, .string x.2.data.toList]
def jZ (x : (Int × Int) × ByteArray) : Prop := bG x.1 /\ x.2.size <= maxLen
def plV (x : (Int × Int) × ByteArray) : Value := .agg #[.int .u64 x.1.1, .int .u64 x.1.2, .string x.2]
theorem PlaceKey.lits {P : Program} {k td ts e : TypeId} {f0 f1 : Field} (A : PlaceKey P k td ts e f0 f1) {m : Nat} (hm : P.types.size = m + 3) (c0 c1 c2 : Value) :
  P.keyLits (P.types.size + 1) k [c0, c1, c2] = (P.keyLits (m + 2) e [c0]).bind fun a => (P.keyLits (m + 2) e [c1]).bind fun b => (P.keyLits (m + 3) ts [c2]).bind fun c => some (a ++ b ++ c) := by
 rw [hm]
 conv => lhs; unfold Program.keyLits
 simp only [A.hu]; rw [if_pos ⟨by rw [A.ck]; rfl, by simpa using ⟨by simpa using A.n0, by simpa using A.n1⟩⟩]; simp only [List.mapM_cons, List.mapM_nil, A.o0, A.o1, A.t0, A.t1, A.cd, A.cs, List.drop, List.take]; rw [show P.keyLits (m + 3) td [c0, c1] = (P.keyLits (m + 2) e [c0]).bind fun a => (P.keyLits (m + 2) e [c1]).bind fun b => some (a ++ b) from by
  conv => lhs; unfold Program.keyLits
  simp only [A.ud]; rw [if_pos (by rw [A.cd]; rfl), show List.range 2 = [0, 1] from rfl, List.mapM_cons, List.mapM_cons, List.mapM_nil]; simp only [A.ce, Nat.zero_mul, Nat.one_mul, List.drop, List.take]; cases P.keyLits (m + 2) e [c0] <;> cases P.keyLits (m + 2) e [c1] <;> simp]
 cases P.keyLits (m + 2) e [c0] <;> cases P.keyLits (m + 2) e [c1] <;> cases P.keyLits (m + 3) ts [c2] <;> simp
theorem EU {P : Program} {k td ts e : TypeId} {f0 f1 : Field} (A : PlaceKey P k td ts e f0 f1) : KeyE P k plV mO jZ where
 law := deep_law (m := 3) (by omega) A.kt A.ti (by rw [A.hu])
 of := fun a ha => by
  obtain ⟨m, hm⟩ := A.sz; unfold keyOf plV; simp only [A.hu]; rw [if_pos (by simp [A.kk, Value.formed, A.hu, A.ck])]; show Option.map _ (P.keyLits _ k [_, _, _]) = _; rw [A.lits hm]; have w1 := ha.1.1; have w2 := ha.1.2; have w3 := ha.2; simp [Program.keyLits, A.ue, A.us, w1, w2, w3, mO]
 inv := fun v l h => by
  obtain ⟨xs, L, rfl, h1, _⟩ := Go.keyOf_top (by rw [A.hu]) h; obtain ⟨m, hm⟩ := A.sz; have hl : xs.toList.length = 3 := by
   unfold Program.keyLits at h1; simp only [A.hu] at h1; split at h1
   . rename_i hl; rw [hl.1, A.ck]
   . cases h1
  obtain ⟨xs⟩ := xs
  match xs, hl with
  | [c0, c1, c2], _ =>
    rw [A.lits hm] at h1; simp only [Option.bind_eq_some_iff] at h1; obtain ⟨a, ha, b, hb, c, hc, _⟩ := h1; have lit1 : ∀ (c : Value) (y : List Lit), P.keyLits (m + 2) e [c] = some y -> ∃ x : Int, c = .int .u64 x /\ (Lit.int .u64 x).wf = true := fun c y h => by
     cases c <;> simp [Program.keyLits, A.ue] at h
     obtain ⟨⟨rfl, hw⟩, _⟩ := h; exact ⟨_, rfl, hw⟩
    obtain ⟨x, rfl, wx⟩ := lit1 _ _ ha; obtain ⟨y, rfl, wy⟩ := lit1 _ _ hb; have lits : ∃ s : ByteArray, c2 = .string s /\ s.size <= maxLen := by
     cases c2 <;> simp [Program.keyLits, A.us] at hc
     exact ⟨_, rfl, hc.1⟩
    obtain ⟨s, rfl, hs⟩ := lits; exact ⟨((x, y), s), ⟨⟨wx, wy⟩, hs⟩, rfl⟩
 inj := fun a b h => by
  unfold plV at h; injection h with h; injection h with h; obtain ⟨⟨a1, a2⟩, a3⟩ := a; obtain ⟨⟨b1, b2⟩, b3⟩ := b; simp at h; simp [h]
end
section
open Go.Maps
theorem Gt : Go.WideMaps.ArrKey Tryz.prog 42 40 2 := ⟨Tryz.underlying42, by kernel_rfl, by kernel_rfl, by kernel_rfl⟩
theorem fD : KeyE Tryz.prog 42 dgV dO bG := Fq Gt Tryz.underlying40 ⟨Tryz.prog.types.size - 1, by kernel_rfl⟩
theorem dF {d : Dig} (h : WfD d) : bG d := by
 obtain ⟨h1, h2, h3, h4⟩ := h; have e : ∀ x : Int, 0 <= x -> x < 18446744073709551616 -> (Lit.int .u64 x).wf = true := fun x ha hb => by
  show (decide (IntKind.u64.min <= x) && decide (x <= IntKind.u64.max)) = true; rw [show IntKind.u64.min = 0 from rfl, show IntKind.u64.max = 18446744073709551615 from rfl, Bool.and_eq_true, decide_eq_true_iff, decide_eq_true_iff]; omega
 exact ⟨e _ h1 h2, e _ h3 h4⟩
def sv {α : Type} (s : α -> Bool) : α -> Option Value := fun d => if s d = true then some (.bool true) else none
theorem xD {α : Type} (s : α -> Bool) (d : α) : (sv s d).getD (.bool false) = .bool (s d) := by
 unfold sv; cases s d <;> rfl
theorem pz {α : Type} (s : α -> Bool) (d : α) : (sv s d).isSome = s d := by
 unfold sv; cases s d <;> rfl
theorem qh {α : Type} [DecidableEq α] (s : α -> Bool) (d : α) : fO (sv s) d (.bool true) = sv (aK s d) := by
 funext t
 unfold fO sv aK; by_cases e : t = d
 . simp [e]
 . simp [e]
abbrev Sd (w : World) (b N : Nat) (s : Dig -> Bool) : Prop := Gm w Tryz.prog 42 dO bG b N (sv s)
theorem Sd.made (w : World) : Sd (w.alloc (.map #[] 0)) w.heap.size 0 (fun _ => false) := Gm.made w _ _ _ _
theorem Sd.look {w : World} {b N : Nat} {s : Dig -> Bool} {t : TypeId} (h : Sd w b N s) (ht : Tryz.prog.underlying t = some (.map 42 4)) {d : Dig} (hd : bG d) :
  (Instr.lookup t (.map (some b)) (.agg #[.int .u64 d.1, .int .u64 d.2]) false).run Tryz.prog w = .ok (.bool (s d)) w := by
 have := Gm.look h fD ht (Tryz.zeroValue4 w) hd; rw [xD] at this; exact this
theorem FI {w : World} {t : TypeId} (ht : Tryz.prog.underlying t = some (.map 42 4)) {d : Dig} (hd : bG d) :
  (Instr.lookup t (.map none) (.agg #[.int .u64 d.1, .int .u64 d.2]) false).run Tryz.prog w = .ok (.bool false) w := zH (s := d) fD ht (Tryz.zeroValue4 w) hd
section
variable {w : World} {ops : Array Oper} {rest : List Oper} {o : Oper} {a : Act} {Q : Exit -> Act -> World -> Prop}
theorem ng (hgd : o.guard = none) (m x y : Operand) (t : TypeId) (hop : o.op = Op.mapUpdate t m x y) (ht : Tryz.prog.underlying t = some (.map 42 4))
  (b N : Nat) (s : Dig -> Bool) (hm : a.eval m = .map (some b)) (h : Sd w b N s) (hn : N < maxLen) (d : Dig) (hd : bG d) (hx : a.eval x = .agg #[.int .u64 d.1, .int .u64 d.2]) (hy : a.eval y = .bool true)
  (hK : ∀ w', Sd w' b (N + 1) (aK s d) -> w.grownBy w' (some b) -> wpList Tryz.prog ops Q rest (a.put o.dst undef) w') : wpList Tryz.prog ops Q (o :: rest) a w :=
 rR hgd m x y t hop _ _ fD ht b N (sv s) hm h hn d hd _ hx hy (fun w' h1 h2 => hK w' (by show Gm _ _ _ _ _ _ _ (sv (aK s d)); rw [<- qh]; exact h1) h2)
theorem yN {α : Type} [DecidableEq α] {P : Program} {k e t : TypeId} {enc : α -> Value} {sb : α -> List UInt8} {ok : α -> Prop} {F : Fence} {n' : Nat} (hgd : o.guard = none) (m x y : Operand) (hop : o.op = Op.mapUpdate t m x y)
  (E : KeyE P k enc sb ok) (ht : P.underlying t = some (.map k e)) (b N : Nat) (g : α -> Option Value) (hm : a.eval m = .map (some b)) (h : Gm w P k sb ok b N g) (hn : N < maxLen)
  (s : α) (hs : ok s) (v : Value) (hx : a.eval x = enc s) (hy : a.eval y = v)
  (hK : ∀ w', Gm w' P k sb ok b (N + 1) (fO g s v) -> w.grownBy w' (some b) -> wpListIn F n' P ops Q rest (a.put o.dst undef) w') : wpListIn F n' P ops Q (o :: rest) a w := by
 refine wpListIn_plain hgd fun K' hK' => ?_; obtain ⟨w', hrun, r1, r2⟩ := h.put E ht hn hs v; unfold Oper.wpIn; refine ⟨?_, ?_⟩
 . simp [Oper.about, hop]
 . rw [Oper.semAt_plain F _ _ (by rw [hop]; intro c hc'; cases hc')]
   simp [execOp, hop, hm, hx, hy, hrun, Result.andThen]; exact hK' _ _ (hK w' r1 r2)
theorem mZ {F : Fence} {n' : Nat} (hgd : o.guard = none) (m x y : Operand) (t : TypeId) (hop : o.op = Op.mapUpdate t m x y) (ht : Tryz.prog.underlying t = some (.map 42 4))
  (b N : Nat) (s : Dig -> Bool) (hm : a.eval m = .map (some b)) (h : Sd w b N s) (hn : N < maxLen) (d : Dig) (hd : bG d) (hx : a.eval x = .agg #[.int .u64 d.1, .int .u64 d.2]) (hy : a.eval y = .bool true)
  (hK : ∀ w', Sd w' b (N + 1) (aK s d) -> w.grownBy w' (some b) -> wpListIn F n' Tryz.prog ops Q rest (a.put o.dst undef) w') : wpListIn F n' Tryz.prog ops Q (o :: rest) a w :=
 yN hgd m x y hop fD ht b N (sv s) hm h hn d hd _ hx hy (fun w' h1 h2 => hK w' (by show Gm _ _ _ _ _ _ _ (sv (aK s d)); rw [<- qh]; exact h1) h2)
end
/-! ### places as keys -/
theorem xU : KeyE Tryz.prog 132 plV mO jZ := EU (td := 42) (ts := 9) (e := 40)
 { hu := Tryz.underlying132, o0 := rfl, t0 := rfl, o1 := rfl, t1 := rfl, n0 := by decide, n1 := by decide, ck := by kernel_rfl, cd := by kernel_rfl, cs := by kernel_rfl, ce := by kernel_rfl,
   ud := Tryz.underlying42, ue := Tryz.underlying40, us := Tryz.underlying9, kt := by kernel_rfl, kk := by kernel_rfl, ti := by kernel_rfl, sz := ⟨Tryz.prog.types.size - 3, by kernel_rfl⟩ }
abbrev Sp14 (w : World) (b N : Nat) (s : Pla -> Bool) : Prop := Gm w Tryz.prog 132 mO jZ b N (sv s)
theorem Sp14.look {w : World} {b N : Nat} {s : Pla -> Bool} {t : TypeId} (h : Sp14 w b N s) (ht : Tryz.prog.underlying t = some (.map 132 4)) {x : Pla} (hx : jZ x) :
  (Instr.lookup t (.map (some b)) (.agg #[.int .u64 x.1.1, .int .u64 x.1.2, .string x.2]) false).run Tryz.prog w = .ok (.bool (s x)) w := by
 have := Gm.look h xU ht (Tryz.zeroValue4 w) hx; rw [xD] at this; exact this
theorem rQ {w : World} {ops : Array Oper} {rest : List Oper} {o : Oper} {a : Act} {Q : Exit -> Act -> World -> Prop} (hgd : o.guard = none) (m x y : Operand) (t : TypeId) (hop : o.op = Op.mapUpdate t m x y) (ht : Tryz.prog.underlying t = some (.map 132 4))
  (b N : Nat) (s : Pla -> Bool) (hm : a.eval m = .map (some b)) (h : Sp14 w b N s) (hn : N < maxLen) (d : Pla) (hd : jZ d) (hx : a.eval x = .agg #[.int .u64 d.1.1, .int .u64 d.1.2, .string d.2]) (hy : a.eval y = .bool true)
  (hK : ∀ w', Sp14 w' b (N + 1) (aK s d) -> w.grownBy w' (some b) -> wpList Tryz.prog ops Q rest (a.put o.dst undef) w') : wpList Tryz.prog ops Q (o :: rest) a w :=
 rR hgd m x y t hop _ _ xU ht b N (sv s) hm h hn d hd _ hx hy (fun w' h1 h2 => hK w' (by show Gm _ _ _ _ _ _ _ (sv (aK s d)); rw [<- qh]; exact h1) h2)
end
def fiD (p : List Itm) (d : Dig) : Int := if (bD p d).isSome = true then (atD p d : Nat) else -1
theorem Fj {p : List Itm} (ha : AscI p) {k : Nat} {x : Itm} (hx : p[k]? = some x) : atD p x.1 = k := by
 rcases Nat.lt_trichotomy k (atD p x.1) with h | h | h
 . exact absurd (nV ha hx h) (dQ _)
 . exact h.symm
 . have hl := (List.getElem?_eq_some_iff.1 hx).1
   have hy : p[atD p x.1]? = some (p[atD p x.1]'(by omega)) := List.getElem?_eq_getElem _; have h1 := nM ha hy ai; have ha' := ha; unfold AscI at ha'; rw [List.pairwise_iff_getElem] at ha'; have h2 := ha' (atD p x.1) k (by omega) hl h; rw [(List.getElem?_eq_some_iff.1 hx).2] at h2; exact absurd h2 h1
theorem Ff {p : List Itm} (ha : AscI p) {k : Nat} {x : Itm} (hx : p[k]? = some x) : fiD p x.1 = (k : Int) := by
 unfold fiD; rw [(fZ ha (d := x.1) (b := x.2)).2 (List.mem_of_getElem? hx), Fj ha hx]; rfl
theorem Fp {p : List Itm} (ha : AscI p) {d : Dig} (h : ∀ y ∈ p, y.1 ≠ d) : fiD p d = -1 := by
 unfold fiD; rw [(jw ha).2 (fun b hb => h _ hb rfl)]; rfl
def FiE (p : List Itm) (d : Dig) (w : World) (e : Ending) (w' : World) : Prop := e = .returned (.int .i64 (fiD p d)) /\ Below w.heap.size w w'
theorem BC (A : OA) (n c B : Nat) (p : List Itm) (d : Dig) (w : World) (h0 : Sl w B 3 A n (flat itC p)) (hB : B <= w.heap.size) (hn : n <= 1000000) (ha : AscI p) :
  Calls Tryz.prog 55 #[.slice A n c, az d] w (FiE p d w) := by
 have HL0 := ah (h0.len cO (by omega)); have HA := ah ha; clear ha; obtain ⟨d1, d2⟩ := d; obtain ⟨W, hW⟩ : ∃ W, w.alloc (.cells #[.int .u64 d1, .int .u64 d2] 42) = W := ⟨_, rfl⟩
 have HB0 : Hid (Below w.heap.size w W) := by rw [<- hW]; exact (Below.refl _ w).alloc ai _
 have HK : Hid (Bk W w.heap.size 42 #[.int .u64 d1, .int .u64 d2]) := by rw [<- hW]; exact Bk.new w _ _
 have H0 : Hid (Sl W B 3 A n (flat itC p)) := h0.below HB0.out hB; have zw : w.heap.size < W.heap.size := HK.out.lt; clear h0; simp only [az]
 go_enter Tryz.func55, Tryz.ntmps55
 go_wp2_with fail; clear hW
 go_loopw [5] (fun i wr => ∃ k : Nat, k <= n /\ i = .int .i64 (k : Int) /\ Hid (∀ y ∈ p.take k, y.1 ≠ (d1, d2)) /\ Hid (Below W.heap.size W wr)) (fun i _ => n - (intOf i).toNat)
 case atStart => exact ⟨0, Nat.zero_le _, rfl, (fun y hy => by rw [List.take_zero] at hy; cases hy), Below.refl _ _⟩
 case round =>
  obtain ⟨k, hk, rfl, hN, hBel⟩ := hrel; by_cases hlt : k < n
  . have hlz : (k : Int) < (n : Int) := by omega
    obtain ⟨b, off, x, rfl, hb, hx, y0, y1, y2⟩ := (H0.out.below hBel.out (by omega)).it hlt; have HX := ah hx; obtain ⟨g0, g1, _, _⟩ := (HK.out.below hBel.out zw).two; have HBE := ah hBel.out; clear hx hBel; obtain ⟨⟨x1, x2⟩, xs⟩ := x; simp only at y0 y1 y2; by_cases he : x1 = d1 /\ x2 = d2
    . obtain ⟨rfl, rfl⟩ := he
      have hgf : (x1 == x1 && x2 == x2) = true := by simp
      have HF : Hid (fiD p (x1, x2) = (k : Int)) := Ff HA.out HX.out; go_wp2_with fail
      go_quiet (fail)
      go_wp2_with fail; go_ret
      exact ⟨by rw [HF.out]; rfl, HB0.out.trans (aM (HBE.out.mono (by omega)) _)⟩
    . have hgf : (x1 == d1 && x2 == d2) = false := by
        rw [Bool.eq_false_iff]; intro h; rw [Bool.and_eq_true, beq_iff_eq, beq_iff_eq] at h; exact he h
      have HN : Hid (∀ y ∈ p.take (k + 1), y.1 ≠ (d1, d2)) := fun y hy => by
       rw [bA HX.out] at hy; rcases List.mem_append.1 hy with hy | hy
       . exact hN.out y hy
       . rw [List.mem_singleton.1 hy]
         intro h; injection h with h1 h2; exact he ⟨h1, h2⟩
      clear he hN; go_wp2_with fail
      go_quiet (fail)
      go_wp2_with fail; go_roundw
      case rel => exact ⟨k + 1, hlt, by go_num, HN.out, aM HBE.out _⟩
      case measure => simp [intOf]; omega
  . have hlz : ¬ (k : Int) < (n : Int) := by omega
    have HF : Hid (fiD p (d1, d2) = -1) := Fp HA.out (fun y hy => hN.out y (by rw [List.take_of_length_le (by rw [HL0.out]; omega)]; exact hy)); have HBE := ah hBel.out; clear hN hBel; go_wp2_with fail; go_ret
    exact ⟨by rw [HF.out]; rfl, HB0.out.trans (HBE.out.mono (by omega))⟩
def EmS (v : Value) (_ : World) : Prop := ∃ b0, v = .slice (some ⟨b0, 0, none⟩) 0 0
section
open Go.Maps
def eU (x : Pla) : List Value := [.int .u64 x.1.1, .int .u64 x.1.2, .string x.2]
theorem uQ (x : Pla) : (eU x).length = 3 := rfl
theorem wT : (Tryz.prog.info? 132).map (fun i => (i.zero, i.size, i.bytes)) = some (some (.agg #[.int .u64 0, .int .u64 0, .string ⟨#[]⟩]), 3, 32) := by kernel_rfl
theorem ve (l : List Pla) : ∀ u ∈ flat eU l, u.oneCell' = true := fun u hu => by
 unfold flat at hu; obtain ⟨i, _, h⟩ := List.mem_flatMap.1 hu; simp [eU] at h; rcases h with rfl | rfl | rfl <;> rfl
structure Wkb where
 b : Nat
 pA : OA
 pn : Nat
 pc : Nat
 pre : ByteArray
 bc : Nat
 bn : Nat
 be : Nat
 bm : Nat
def wkC (k : Wkb) (oA : OA) (on oc : Nat) (wr : Bool) : Array Value := #[.slice k.pA k.pn k.pc, .string k.pre, .map (some k.bc), .map (some k.bn), .map (some k.be), .map (some k.bm), .slice oA on oc, .bool wr]
structure WkD (base : Nat) (k : Wkb) : Prop where
 b : base <= k.b
 bc : base <= k.bc
 bn : base <= k.bn
 be : base <= k.be
 bm : base <= k.bm
 cn : k.bc ≠ k.bn
 ce : k.bc ≠ k.be
 cm : k.bc ≠ k.bm
 ne : k.bn ≠ k.be
 nm : k.bn ≠ k.bm
 em : k.be ≠ k.bm
theorem Que.bel {w w' : World} {base size n c : Nat} {e : TypeId} {A : OA} {xs : List Value} (h : Que w base e size A n c xs) (hb : Below w.heap.size w w') : Que w' base e size A n c xs := h.keep fun g _ hg => hb.block g (Array.getElem?_eq_some_iff.1 hg).1
theorem Que.grown14 {w w' : World} {base size n c g : Nat} {e : TypeId} {A : OA} {xs : List Value} (h : Que w base e size A n c xs) (hg : w.grownBy w' (some g)) (hn : ∀ cs, w.heap[g]? ≠ some (.cells cs e (0, 0))) : Que w' base e size A n c xs :=
 h.keep fun i cur hi => hg.block i (Array.getElem?_eq_some_iff.1 hi).1 fun e => hn cur (by rw [<- Option.some.inj e]; exact hi)
theorem Que.box {w : World} {base size n c b : Nat} {e t : TypeId} {A : OA} {xs : List Value} {cs : Array Value} (h : Que w base e size A n c xs) (hb : Bk w b t cs) (ht : e ≠ t) (i : Nat) (v : Value) : Que (w.setCell ⟨b, i, none⟩ v) base e size A n c xs :=
 h.keep fun g cur hg => Below.heap_setCell w ⟨b, i, none⟩ v g fun eq => by
  have eq' : g = b := eq; rw [eq', show w.heap[b]? = _ from hb] at hg; have := Option.some.inj hg; injection this with _ h6; exact ht h6.symm
theorem Que.cut {w : World} {base size n c : Nat} {e : TypeId} {A : OA} {xs : List Value} (h : Que w base e size A n c xs) {m : Nat} (hm : m <= n) : Que w base e size A m c (xs.take (m * size)) := by
 obtain ⟨h0, h1⟩ := h; refine ⟨by rw [List.length_take, h0]; exact Nat.min_eq_left (Nat.mul_le_mul_right _ hm), ?_⟩; rcases h1 with ⟨rfl, rfl⟩ | ⟨g, off, cur, h2, h3, h4, h5, h6, h7, h8⟩
 . exact .inl ⟨by omega, rfl⟩
 . refine .inr ⟨g, off, cur, h2, h3, h4, by omega, h6, h7, ?_⟩
   rw [<- h8, List.take_take, Nat.min_eq_left (Nat.mul_le_mul_right _ hm)]
structure WkM (w : World) (base : Nat) (k : Wkb) (com : Dig -> Bool) (Nc N : Nat) (s : WkS) : Prop where
 box : ∃ oA oc, Bk w k.b 67 (wkC k oA s.op.length oc s.wr) /\ Que w base 132 3 oA s.op.length oc (flat eU s.op) /\ s.op.length <= oc /\ oc <= maxLen
 com : Sd w k.bc Nc com
 ne : Sd w k.bn N s.ne
 ed : Sd w k.be N s.ed
 me : Sp14 w k.bm N s.me
theorem WkM.more {w : World} {base : Nat} {k : Wkb} {com : Dig -> Bool} {Nc N N' : Nat} {s : WkS} (h : WkM w base k com Nc N s) (hN : N <= N') : WkM w base k com Nc N' s := ⟨h.box, h.com, h.ne.more hN, h.ed.more hN, h.me.more hN⟩
def wkT (base : Nat) (k : Wkb) (w : World) (i : Nat) : Prop := base <= i /\ (i = k.b ∨ i = k.bn ∨ i = k.be ∨ i = k.bm ∨ isRow 132 w.heap[i]?)
structure WkF (base : Nat) (k : Wkb) (w w' : World) : Prop where
 os : w'.os = w.os
 tape : w'.tape = w.tape
 output : w'.output = w.output
 size : w.heap.size <= w'.heap.size
 block : ∀ i, i < w.heap.size -> ¬ wkT base k w i -> w'.heap[i]? = w.heap[i]?
section
variable {base : Nat} {k : Wkb} {a b c : World}
theorem WkF.refl (base : Nat) (k : Wkb) (w : World) : WkF base k w w := ⟨rfl, rfl, rfl, Nat.le_refl _, fun _ _ _ => rfl⟩
theorem WkF.trans (h : WkF base k a b) (g : WkF base k b c) : WkF base k a c :=
 ⟨g.os.trans h.os, g.tape.trans h.tape, g.output.trans h.output, Nat.le_trans h.size g.size, fun i hi hn => by
   have h1 := h.block i hi hn; rw [<- h1]; refine g.block i (Nat.lt_of_lt_of_le hi h.size) fun ⟨h2, h3⟩ => hn ⟨h2, ?_⟩; rw [h1] at h3; exact h3⟩
theorem WkF.of_below (h : Below a.heap.size a b) : WkF base k a b := ⟨h.os, h.tape, h.output, h.size, fun i hi _ => h.block i hi⟩
theorem WkF.below (h : WkF base k a b) (hB : base <= a.heap.size) : Below base a b := ⟨h.os, h.tape, h.output, h.size, fun i hi => h.block i (by omega) fun h => by have := h.1; omega⟩
theorem WkF.grown {row : Option Nat} (hg : a.grownBy b row) (hr : ∀ i, row = some i -> wkT base k a i) : WkF base k a b :=
 ⟨hg.os, hg.tape, hg.output, hg.size, fun i hi hn => hg.block i hi (fun e => hn (hr i e.symm))⟩
theorem WkF.set {w : World} (hb : base <= k.b) (o : Nat) (v : Value) : WkF base k w (w.setCell ⟨k.b, o, none⟩ v) :=
 ⟨rfl, rfl, rfl, by simp, fun i _ hn => Below.heap_setCell w ⟨k.b, o, none⟩ v i (fun e => hn (by have e' : i = k.b := e; rw [e']; exact ⟨hb, .inl rfl⟩))⟩
theorem WkF.row {g : Nat} {cur : Array Value} {t : TypeId} (h : WkF base k a b) (hg : a.heap[g]? = some (.cells cur t (0, 0))) (ht : t ≠ 132) (hb : g ≠ k.b) (hn : g ≠ k.bn) (he : g ≠ k.be) (hm : g ≠ k.bm) : b.heap[g]? = some (.cells cur t (0, 0)) := by
 refine (h.block g (Array.getElem?_eq_some_iff.1 hg).1 fun ⟨_, h2⟩ => ?_).trans hg; rcases h2 with h2 | h2 | h2 | h2 | h2
 . exact hb h2
 . exact hn h2
 . exact he h2
 . exact hm h2
 . rw [hg] at h2; exact ht h2
theorem WkF.sl {B size n : Nat} {A : OA} {xs : List Value} (h : WkF base k a b) (hs : Sl a B size A n xs) (hn : ∀ ad, 0 < n -> A = some ad -> ¬ wkT base k a ad.block) (hB : B <= a.heap.size) : Sl b B size A n xs := by
 refine ⟨hs.1, fun h0 => ?_⟩; obtain ⟨b', off, rfl, hb', hc⟩ := hs.2 h0; exact ⟨b', off, rfl, hb', fun j u hu => (World.cell?_of_block (h.block b' (by omega) (hn _ h0 rfl))).trans (hc j u hu)⟩
end
theorem Gm.notCells {α : Type} {w : World} {P : Program} {k : TypeId} {sb : α -> List UInt8} {ok : α -> Prop} {b N : Nat} {g : α -> Option Value} (h : Gm w P k sb ok b N g) {cs : Array Value} {t : TypeId} {f : Nat × Nat} : w.heap[b]? ≠ some (.cells cs t f) := by
 obtain ⟨D, ⟨es, clock, h1, _⟩, _⟩ := h; rw [h1]; intro e; cases e
section
variable {w w' : World} {base : Nat} {k : Wkb} {com : Dig -> Bool} {Nc N : Nat} {s : WkS}
theorem WkM.apart (h : WkM w base k com Nc N s) : k.b ≠ k.bc /\ k.b ≠ k.bn /\ k.b ≠ k.be /\ k.b ≠ k.bm := by
 obtain ⟨oA, oc, hb, _⟩ := h.box; exact ⟨fun e => h.com.notCells (e ▸ hb), fun e => h.ne.notCells (e ▸ hb), fun e => h.ed.notCells (e ▸ hb), fun e => h.me.notCells (e ▸ hb)⟩
theorem WkM.lt (h : WkM w base k com Nc N s) : k.b < w.heap.size /\ k.bc < w.heap.size /\ k.bn < w.heap.size /\ k.be < w.heap.size /\ k.bm < w.heap.size := by
 obtain ⟨oA, oc, hb, _⟩ := h.box; exact ⟨hb.lt, h.com.lt, h.ne.lt, h.ed.lt, h.me.lt⟩
theorem WkM.below (h : WkM w base k com Nc N s) (hb : Below w.heap.size w w') : WkM w' base k com Nc N s := by
 obtain ⟨oA, oc, h1, h2, h3⟩ := h.box; obtain ⟨l1, l2, l3, l4, l5⟩ := h.lt; exact ⟨⟨oA, oc, h1.below hb l1, h2.bel hb, h3⟩, h.com.below hb l2, h.ne.below hb l3, h.ed.below hb l4, h.me.below hb l5⟩
end
theorem ig {w : World} {α : Type} {P : Program} {k t : TypeId} {sb : α -> List UInt8} {ok : α -> Prop} {b N : Nat} {g : α -> Option Value} (h : Gm w P k sb ok b N g) : ¬ isRow t w.heap[b]? := by
 obtain ⟨D, ⟨es, clock, h1, _⟩, _⟩ := h; rw [h1]; exact fun h => h
def jY : OA -> Option Nat
 | some a => some a.block
 | none => none
def df (w : World) (b : Nat) : Option Nat :=
 match w.cell? ⟨b, 6, none⟩ with
 | some (.slice A _ _) => jY A
 | _ => none
structure WkR (b : Nat) (w w' : World) : Prop where
 size : w.heap.size <= w'.heap.size
 row : ∀ i, i < w.heap.size -> isRow 132 w.heap[i]? -> df w b ≠ some i -> w'.heap[i]? = w.heap[i]?
 op : df w' b = df w b ∨ ∀ g, df w' b = some g -> w.heap.size <= g
section
variable {b : Nat} {x y z : World}
theorem WkR.refl (b : Nat) (w : World) : WkR b w w := ⟨Nat.le_refl _, fun _ _ _ _ => rfl, .inl rfl⟩
theorem WkR.trans (h : WkR b x y) (g : WkR b y z) : WkR b x z := by
 refine ⟨Nat.le_trans h.size g.size, fun i hi hr hn => ?_, ?_⟩
 . have h1 := h.row i hi hr hn
   rw [<- h1]; refine g.row i (Nat.lt_of_lt_of_le hi h.size) (by rw [h1]; exact hr) fun e => ?_; rcases h.op with h2 | h2
   . rw [h2] at e; exact hn e
   . have := h2 i e; omega
 . rcases g.op with g2 | g2
   . rcases h.op with h2 | h2
     . exact .inl (g2.trans h2)
     . exact .inr fun k e => h2 k (g2 ▸ e)
   . exact .inr fun k e => Nat.le_trans h.size (g2 k e)
theorem lF (h : y.heap[b]? = x.heap[b]?) : df y b = df x b := by
 unfold df; rw [World.cell?_of_block (w := x) (w' := y) (a := ⟨b, 6, none⟩) h]
theorem WkR.of_below (hb : Below x.heap.size x y) (hl : b < x.heap.size) : WkR b x y := ⟨hb.size, fun i hi _ _ => hb.block i hi, .inl (lF (hb.block b hl))⟩
theorem WkR.grown {r : Option Nat} (hg : x.grownBy y r) (hr : ∀ i, r = some i -> ¬ isRow 132 x.heap[i]? /\ i ≠ b) (hl : b < x.heap.size) : WkR b x y :=
 ⟨hg.size, fun i hi hri _ => hg.block i hi (fun e => (hr i e.symm).1 hri), .inl (lF (hg.block b hl (fun e => (hr b e.symm).2 rfl)))⟩
theorem WkR.far {r : Nat} {t : TypeId} {cs : Array Value} (hk : Bk x r t cs) (ht : t ≠ 132) (hrb : r ≠ b) (i : Nat) (v : Value) : WkR b x (x.setCell ⟨r, i, none⟩ v) := by
 have hs : ∀ j, j ≠ r -> (x.setCell ⟨r, i, none⟩ v).heap[j]? = x.heap[j]? := fun j hj => Below.heap_setCell x ⟨r, i, none⟩ v j hj; refine ⟨by simp, fun j _ hrj _ => hs j fun e => ?_, .inl (lF (hs b hrb.symm))⟩; rw [e, show x.heap[r]? = _ from hk] at hrj; exact ht hrj
theorem WkR.after {w : World} (h : WkR b x w) {r : Nat} (hr : x.heap.size <= r) (hrb : r ≠ b) (o : Nat) (v : Value) : WkR b x (w.setCell ⟨r, o, none⟩ v) := by
 have hs : ∀ j, j ≠ r -> (w.setCell ⟨r, o, none⟩ v).heap[j]? = w.heap[j]? := fun j hj => Below.heap_setCell w ⟨r, o, none⟩ v j hj; have e : df (w.setCell ⟨r, o, none⟩ v) b = df w b := lF (hs b hrb.symm); exact ⟨by have := h.size; simpa using this, fun i hi h1 h2 => (hs i (by omega)).trans (h.row i hi h1 h2), by rw [e]; exact h.op⟩
theorem oh {w : World} (h : WkR b x w) {r : Nat} (hr : x.heap.size <= r) (hrb : r ≠ b) (y0 y1 y2 y3 y4 y5 y6 y7 y8 : Value) :
  WkR b x (((((((((w.setCell ⟨r, 0, none⟩ y0).setCell ⟨r, 1, none⟩ y1).setCell ⟨r, 2, none⟩ y2).setCell ⟨r, 3, none⟩ y3).setCell ⟨r, 4, none⟩ y4).setCell ⟨r, 5, none⟩ y5).setCell ⟨r, 6, none⟩ y6).setCell ⟨r, 7, none⟩ y7).setCell ⟨r, 8, none⟩ y8) :=
 ((((((((h.after hr hrb 0 y0).after hr hrb 1 y1).after hr hrb 2 y2).after hr hrb 3 y3).after hr hrb 4 y4).after hr hrb 5 y5).after hr hrb 6 y6).after hr hrb 7 y7).after hr hrb 8 y8
theorem WkR.own {t : TypeId} {cs : Array Value} (hk : Bk x b t cs) (ht : t ≠ 132) (i : Nat) (hi : i ≠ 6) (v : Value) : WkR b x (x.setCell ⟨b, i, none⟩ v) := by
 have hs : ∀ j, j ≠ b -> (x.setCell ⟨b, i, none⟩ v).heap[j]? = x.heap[j]? := fun j hj => Below.heap_setCell x ⟨b, i, none⟩ v j hj; refine ⟨by simp, fun j _ hrj _ => hs j fun e => ?_, .inl ?_⟩
 . rw [e, show x.heap[b]? = _ from hk] at hrj
   exact ht hrj
 . unfold df
   rw [(hk.set i v).cell, hk.cell, Array.getElem?_setIfInBounds, if_neg hi]
theorem WkR.push {row : Option Nat} {cs : Array Value} {A A2 : OA} {n n2 c c2 : Nat} (hk : Bk x b 67 cs) (h6 : cs[6]? = some (.slice A n c)) (hg : x.grownBy y row) (hr : ∀ g, row = some g -> (∃ cur, x.heap[g]? = some (.cells cur 132 (0, 0))) /\ ∃ off, A = some ⟨g, off, none⟩)
  (hA : ∀ a, A2 = some a -> (∃ off, A = some ⟨a.block, off, none⟩) ∨ x.heap.size <= a.block) (hsz : 6 < cs.size) : WkR b x (y.setCell ⟨b, 6, none⟩ (.slice A2 n2 c2)) := by
 have ho : df x b = jY A := by unfold df; rw [hk.cell, h6]
 have hrow : ∀ g, row = some g -> jY A = some g /\ g ≠ b := fun g hgg => by
  obtain ⟨⟨cur, h1⟩, off, h2⟩ := hr g hgg; refine ⟨by rw [h2]; rfl, fun e => ?_⟩; rw [e, show x.heap[b]? = _ from hk] at h1; have := Option.some.inj h1; injection this with _ h6; exact absurd (show (67 : Nat) = 132 from h6) (by decide)
 have hky : Bk y b 67 cs := hk.grown hg (fun e => (hrow b e.symm).2 rfl); have hs : ∀ j, j ≠ b -> (y.setCell ⟨b, 6, none⟩ (.slice A2 n2 c2)).heap[j]? = y.heap[j]? := fun j hj => Below.heap_setCell y ⟨b, 6, none⟩ _ j hj; refine ⟨by have := hg.size; simpa using this, fun i hi hri hn => ?_, ?_⟩
 . rw [hs i fun e => ?_]
   . exact hg.block i hi (fun e => hn (by rw [ho]; exact (hrow i e.symm).1))
   . rw [e, show x.heap[b]? = _ from hk] at hri
     exact absurd (show (67 : Nat) = 132 from hri) (by decide)
 . have h2 : df (y.setCell ⟨b, 6, none⟩ (.slice A2 n2 c2)) b = jY A2 := by
     unfold df; rw [(hky.set 6 (.slice A2 n2 c2)).cell, Array.getElem?_setIfInBounds, if_pos rfl, if_pos hsz]
   rw [h2, ho]; cases A2 with
   | none => exact .inr fun g e => by cases e
   | some a =>
     rcases hA a rfl with ⟨off, h3⟩ | h3
     . exact .inl (by rw [h3]; rfl)
     . exact .inr fun g e => by cases e; exact h3
end
end
section
open Go.Maps
theorem NewO.bel {w w' : World} {b : Nat} {s : Osl} (h : NewO w b s) (hb : Below w.heap.size w w') : NewO w' b s := fun a h1 h2 => by
 obtain ⟨h3, cur, h4⟩ := h a h1 h2; exact ⟨h3, cur, (hb.block _ (Array.getElem?_eq_some_iff.1 h4).1).trans h4⟩
theorem NewP.bel {w w' : World} {b : Nat} {s : Osl} (h : NewP w b s) (hb : Below w.heap.size w w') : NewP w' b s := fun a h1 h2 => by
 obtain ⟨h3, cur, h4⟩ := h a h1 h2; exact ⟨h3, cur, (hb.block _ (Array.getElem?_eq_some_iff.1 h4).1).trans h4⟩
structure ObW (w : World) (lo : Nat) (o : Ob) (s : Osl) : Prop where
 m : ObM w w.heap.size o s
 e : NewO w lo s
 p : NewP w lo s
theorem ObW.bel {w w' : World} {b : Nat} {o : Ob} {s : Osl} (h : ObW w b o s) (hb : Below w.heap.size w w') : ObW w' b o s := ⟨(h.m.below hb ai).more hb.size, h.e.bel hb, h.p.bel hb⟩
theorem Sl.row9 {w w' : World} {B size n lo : Nat} {A : OA} {xs : List Value} {b : Nat} {t e : TypeId} {cs : Array Value} (h : Sl w B size A n xs) (hr : ∀ a, 0 < n -> A = some a -> lo <= a.block /\ ∃ cur, w.heap[a.block]? = some (.cells cur e (0, 0))) (hz : Bk w b t cs) (ht : t ≠ e) (hw : ∀ k, k ≠ b -> w'.heap[k]? = w.heap[k]?) : Sl w' B size A n xs :=
 h.ne (b := b) (fun a h0 ha e => by
  obtain ⟨_, cur, hc⟩ := hr a h0 ha; rw [e, show w.heap[b]? = _ from hz] at hc; have := Option.some.inj hc; injection this with _ h6; exact ht h6) hw
theorem ObW.set9 {W : World} {lo b : Nat} {cs : Array Value} {o : Ob} {s : Osl} (h : ObW W lo o s) (hz : Bk W b 75 cs) (y0 y1 y2 y3 y4 y5 y6 y7 y8 : Value) :
  ObW (((((((((W.setCell ⟨b, 0, none⟩ y0).setCell ⟨b, 1, none⟩ y1).setCell ⟨b, 2, none⟩ y2).setCell ⟨b, 3, none⟩ y3).setCell ⟨b, 4, none⟩ y4).setCell ⟨b, 5, none⟩ y5).setCell ⟨b, 6, none⟩ y6).setCell ⟨b, 7, none⟩ y7).setCell ⟨b, 8, none⟩ y8) lo o s := by
 have hk := fun k hk => iT b W y0 y1 y2 y3 y4 y5 y6 y7 y8 k hk; have hz' : ((((((((((W.setCell ⟨b, 0, none⟩ y0).setCell ⟨b, 1, none⟩ y1).setCell ⟨b, 2, none⟩ y2).setCell ⟨b, 3, none⟩ y3).setCell ⟨b, 4, none⟩ y4).setCell ⟨b, 5, none⟩ y5).setCell ⟨b, 6, none⟩ y6).setCell ⟨b, 7, none⟩ y7).setCell ⟨b, 8, none⟩ y8)).heap.size = W.heap.size := by simp
 refine ⟨?_, h.e.keep hz (by decide) hk, h.p.keep hz (by decide) hk⟩; rw [hz']; exact ⟨h.m.e.row9 h.e hz (by decide) hk, h.m.p.row9 h.p hz (by decide) hk, h.m.ele, h.m.emx, h.m.ple, h.m.pmx⟩
theorem ObW.far {W : World} {lo b : Nat} {t : TypeId} {cs : Array Value} {o : Ob} {s : Osl} (h : ObW W lo o s) (hz : Bk W b t cs) (he : t ≠ 111) (hd : t ≠ 42) (i : Nat) (v : Value) : ObW (W.setCell ⟨b, i, none⟩ v) lo o s := by
 have hk : ∀ k, k ≠ b -> (W.setCell ⟨b, i, none⟩ v).heap[k]? = W.heap[k]? := fun k hk => Below.heap_setCell W ⟨b, i, none⟩ v k hk; have hz' : (W.setCell ⟨b, i, none⟩ v).heap.size = W.heap.size := by simp
 refine ⟨?_, h.e.keep hz he hk, h.p.keep hz hd hk⟩; rw [hz']; exact ⟨h.m.e.row9 h.e hz he hk, h.m.p.row9 h.p hz hd hk, h.m.ele, h.m.emx, h.m.ple, h.m.pmx⟩
def GCase (p : List Itm) (d : Dig) (lo : Nat) (o : Ob) (s : Osl) (err : Int) (W : World) : Prop := (err = 0 /\ ay p d = some o /\ OkO o /\ ObW W lo o s) ∨ (err = 8 /\ ay p d = none)
theorem GCase.bel {p : List Itm} {d : Dig} {lo : Nat} {o : Ob} {s : Osl} {err : Int} {W W' : World} (h : GCase p d lo o s err W) (hb : Below W.heap.size W W') : GCase p d lo o s err W' := by
 rcases h with ⟨h1, h2, h3, h4⟩ | h
 . exact .inl ⟨h1, h2, h3, h4.bel hb⟩
 . exact .inr h
theorem GCase.set9 {p : List Itm} {d : Dig} {lo : Nat} {o : Ob} {s : Osl} {err : Int} {W : World} {b : Nat} {cs : Array Value} (h : GCase p d lo o s err W) (hz : Bk W b 75 cs) (y0 y1 y2 y3 y4 y5 y6 y7 y8 : Value) :
  GCase p d lo o s err (((((((((W.setCell ⟨b, 0, none⟩ y0).setCell ⟨b, 1, none⟩ y1).setCell ⟨b, 2, none⟩ y2).setCell ⟨b, 3, none⟩ y3).setCell ⟨b, 4, none⟩ y4).setCell ⟨b, 5, none⟩ y5).setCell ⟨b, 6, none⟩ y6).setCell ⟨b, 7, none⟩ y7).setCell ⟨b, 8, none⟩ y8) := by
 rcases h with ⟨h1, h2, h3, h4⟩ | h
 . exact .inl ⟨h1, h2, h3, h4.set9 hz y0 y1 y2 y3 y4 y5 y6 y7 y8⟩
 . exact .inr h
def WgE (base : Nat) (k : Wkb) (com : Dig -> Bool) (Nc N : Nat) (s : WkS) (p : List Itm) (d : Dig) (kd : Int) (w : World) (e : Ending) (w' : World) : Prop :=
 ((∃ o sl, (aL p s d kd).2 = some o /\ OkO o /\ e = .returned (.tuple #[obV o sl, .bool true]) /\ ObW w' w.heap.size o sl) ∨
  ((aL p s d kd).2 = none /\ ∃ o sl, e = .returned (.tuple #[obV o sl, .bool false]))) /\ WkM w' base k com Nc (N + 1) (aL p s d kd).1 /\ WkF base k w w' /\ WkR k.b w w'
theorem D6 {p : List Itm} {s : WkS} {d : Dig} {kd : Int} (h : ay p d = none) : aL p s d kd = ({ s with ne := aK s.ne d }, none) := by unfold aL; rw [h]
theorem Eo {p : List Itm} {s : WkS} {d : Dig} {kd : Int} {o : Ob} (h : ay p d = some o) (hk : o.kind = kd) : aL p s d kd = ({ s with ne := aK s.ne d }, some o) := by unfold aL; rw [h]; simp only; rw [if_pos hk]
theorem CK {p : List Itm} {s : WkS} {d : Dig} {kd : Int} {o : Ob} (h : ay p d = some o) (hk : o.kind ≠ kd) : aL p s d kd = ({ s with ne := aK s.ne d, wr := true }, none) := by unfold aL; rw [h]; simp only; rw [if_neg hk]
theorem WkM.setNe {w w' : World} {base : Nat} {k : Wkb} {com : Dig -> Bool} {Nc N : Nat} {s : WkS} {d : Dig} (h : WkM w base k com Nc N s) (D : WkD base k) (hS : Sd w' k.bn (N + 1) (aK s.ne d)) (hg : w.grownBy w' (some k.bn)) :
  WkM w' base k com Nc (N + 1) { s with ne := aK s.ne d } := by
 obtain ⟨a1, a2, a3, a4⟩ := h.apart; obtain ⟨oA, oc, h1, h2, h3⟩ := h.box; have hne := h.ne; refine ⟨⟨oA, oc, h1.grown hg (fun e => a2 (Option.some.inj e)), ?_, h3⟩, h.com.kept hg (fun e => D.cn (Option.some.inj e)), hS, (h.ed.kept hg (fun e => D.ne (Option.some.inj e).symm)).more (by omega), (h.me.kept hg (fun e => D.nm (Option.some.inj e).symm)).more (by omega)⟩; exact h2.grown14 hg (fun cs => hne.notCells)
theorem WkM.setWr {w : World} {base : Nat} {k : Wkb} {com : Dig -> Bool} {Nc N : Nat} {s : WkS} (h : WkM w base k com Nc N s) : WkM (w.setCell ⟨k.b, 7, none⟩ (.bool true)) base k com Nc N { s with wr := true } := by
 obtain ⟨a1, a2, a3, a4⟩ := h.apart; obtain ⟨oA, oc, h1, h2, h3⟩ := h.box; refine ⟨⟨oA, oc, ?_, ?_, h3⟩, h.com.setc a1.symm, h.ne.setc a2.symm, h.ed.setc a3.symm, h.me.setc a4.symm⟩
 . have := h1.set 7 (.bool true); unfold wkC at this ⊢; simpa using this
 . exact h2.box h1 (by decide) 7 (.bool true)
theorem WkM.far {w : World} {base : Nat} {k : Wkb} {com : Dig -> Bool} {Nc N : Nat} {s : WkS} (h : WkM w base k com Nc N s) {x : Nat} {t : TypeId} {cs : Array Value} (hx : Bk w x t cs) (ht : t ≠ 132) (hxb : x ≠ k.b) (i : Nat) (v : Value) : WkM (w.setCell ⟨x, i, none⟩ v) base k com Nc N s := by
 obtain ⟨oA, oc, h1, h2, h3⟩ := h.box; refine ⟨⟨oA, oc, h1.far hxb.symm v, ?_, h3⟩, h.com.setc (fun e => h.com.notCells (show w.heap[k.bc]? = _ from by rw [show k.bc = x from e]; exact hx)), h.ne.setc (fun e => h.ne.notCells (show w.heap[k.bn]? = _ from by rw [show k.bn = x from e]; exact hx)), h.ed.setc (fun e => h.ed.notCells (show w.heap[k.be]? = _ from by rw [show k.be = x from e]; exact hx)), h.me.setc (fun e => h.me.notCells (show w.heap[k.bm]? = _ from by rw [show k.bm = x from e]; exact hx))⟩; exact h2.box hx ht.symm i v
theorem WkM.far9 {w : World} {base : Nat} {k : Wkb} {com : Dig -> Bool} {Nc N : Nat} {s : WkS} (h : WkM w base k com Nc N s) {x : Nat} {t : TypeId} {x0 x1 x2 x3 x4 x5 x6 x7 x8 : Value} (hx : Bk w x t #[x0, x1, x2, x3, x4, x5, x6, x7, x8]) (ht : t ≠ 132) (hxb : x ≠ k.b) (y0 y1 y2 y3 y4 y5 y6 y7 y8 : Value) :
  WkM (((((((((w.setCell ⟨x, 0, none⟩ y0).setCell ⟨x, 1, none⟩ y1).setCell ⟨x, 2, none⟩ y2).setCell ⟨x, 3, none⟩ y3).setCell ⟨x, 4, none⟩ y4).setCell ⟨x, 5, none⟩ y5).setCell ⟨x, 6, none⟩ y6).setCell ⟨x, 7, none⟩ y7).setCell ⟨x, 8, none⟩ y8) base k com Nc N s := by
 have b1 := hx.set 0 y0; have b2 := b1.set 1 y1; have b3 := b2.set 2 y2; have b4 := b3.set 3 y3; have b5 := b4.set 4 y4; have b6 := b5.set 5 y5; have b7 := b6.set 6 y6; have b8 := b7.set 7 y7; exact ((((((((h.far hx ht hxb 0 y0).far b1 ht hxb 1 y1).far b2 ht hxb 2 y2).far b3 ht hxb 3 y3).far b4 ht hxb 4 y4).far b5 ht hxb 5 y5).far b6 ht hxb 6 y6).far b7 ht hxb 7 y7).far b8 ht hxb 8 y8
theorem WkF.after {base : Nat} {k : Wkb} {w0 w : World} (h : WkF base k w0 w) {x : Nat} (hx : w0.heap.size <= x) (o : Nat) (v : Value) : WkF base k w0 (w.setCell ⟨x, o, none⟩ v) :=
 ⟨h.os, h.tape, h.output, by have := h.size; simpa using this, fun i hi hn => (Below.heap_setCell w ⟨x, o, none⟩ v i (by show i ≠ x; omega)).trans (h.block i hi hn)⟩
theorem oU {base : Nat} {k : Wkb} {w0 w : World} (h : WkF base k w0 w) {x : Nat} (hx : w0.heap.size <= x) (y0 y1 y2 y3 y4 y5 y6 y7 y8 : Value) :
  WkF base k w0 (((((((((w.setCell ⟨x, 0, none⟩ y0).setCell ⟨x, 1, none⟩ y1).setCell ⟨x, 2, none⟩ y2).setCell ⟨x, 3, none⟩ y3).setCell ⟨x, 4, none⟩ y4).setCell ⟨x, 5, none⟩ y5).setCell ⟨x, 6, none⟩ y6).setCell ⟨x, 7, none⟩ y7).setCell ⟨x, 8, none⟩ y8) :=
 ((((((((h.after hx 0 y0).after hx 1 y1).after hx 2 y2).after hx 3 y3).after hx 4 y4).after hx 5 y5).after hx 6 y6).after hx 7 y7).after hx 8 y8
theorem ou (base : Nat) (k : Wkb) (com : Dig -> Bool) (Nc N : Nat) (s : WkS) (p : List Itm) (d : Dig) (kd : Int) (w : World) (hM : WkM w base k com Nc N s) (hD : WkD base k) (hp : Sl w base 3 k.pA k.pn (flat itC p)) (hbw : base <= w.heap.size) (hpo : PlOk p) (hpn : k.pn <= 1000000) (hN : N < maxLen) (hd : WfD d) :
  Calls Tryz.prog 74 #[.pointer (some ⟨k.b, 0, none⟩), az d, .int .i64 kd] w (WgE base k com Nc N s p d kd w) := by
 obtain ⟨d1, d2⟩ := d; have HD := ah hD; have HPO := ah hpo; have HWD := ah hd; obtain ⟨W0, hW0⟩ : ∃ W, (w.alloc (.cells #[.int .u64 d1, .int .u64 d2] 42)).alloc (.cells #[.int .i64 0, .string ⟨#[]⟩, .slice none 0 0, .int .u64 0, .int .u64 0, .slice none 0 0, .string ⟨#[]⟩, .int .i64 0, .string ⟨#[]⟩] 75) = W := ⟨_, rfl⟩
 have HB0 : Hid (Below w.heap.size w W0) := by rw [<- hW0]; exact ((Below.refl _ w).alloc ai _).alloc (by simp) _
 have HK0 : Hid (Bk W0 w.heap.size 42 #[.int .u64 d1, .int .u64 d2]) := by rw [<- hW0]; exact (Bk.new w _ _).alloc _
 have HZ0 : Hid (Bk W0 (w.heap.size + 1) 75 zrC) := by
  rw [<- hW0]; have := Bk.new (w.alloc (.cells #[.int .u64 d1, .int .u64 d2] 42)) 75 #[.int .i64 0, .string ⟨#[]⟩, .slice none 0 0, .int .u64 0, .int .u64 0, .slice none 0 0, .string ⟨#[]⟩, .int .i64 0, .string ⟨#[]⟩]; rw [World.size_alloc] at this; exact this
 have zW0 : w.heap.size + 2 = W0.heap.size := by rw [<- hW0]; simp
 have HM0 := ah (hM.below HB0.out); have HP0 := ah (hp.below HB0.out hbw); have hkb : k.b < w.heap.size := hM.lt.1; have hkn : k.bn < w.heap.size := hM.lt.2.2.1; obtain ⟨oA, oc, hbx, hap, hoc, hocm⟩ := HM0.out.box; have HBX := ah hbx; have hkD := hD.b; have hbn : k.b ≠ k.bn := hM.apart.2.1; have hkDn := hD.bn; have HW0 := ah hW0; clear hM hD hp hpo hd hbx hap hoc hocm hW0; obtain ⟨b, pA, pn, pc, pre, bc, bn, be, bm⟩ := k; unfold wkC at HBX; simp only at hkb hkn hkD hkDn hbn HBX HP0 hpn ⊢; simp only [az]; have c3 := HBX.out.cell 3; obtain ⟨x0, x1, _, _⟩ := HK0.out.two; simp at c3
 go_enter Tryz.func74, Tryz.ntmps74
 go_wp2_with fail; rw [HW0.out]
 go_still_tail 5, (by kernel_rfl)
 change wpList _ _ _ _ _ W0.drew; clear c3 x0 x1; refine ng rfl _ _ _ 63 rfl Tryz.underlying63 bn N s.ne rfl HM0.out.ne hN (d1, d2) (dF HWD.out) rfl rfl ?_; intro w2 hS2 hg2; have hg2' : W0.grownBy w2 (some bn) := ⟨hg2.os, hg2.tape, hg2.output, hg2.size, hg2.block⟩
 have HM2 : Hid (WkM w2 base ⟨b, pA, pn, pc, pre, bc, bn, be, bm⟩ com Nc (N + 1) { s with ne := aK s.ne (d1, d2) }) := HM0.out.setNe HD.out hS2 hg2'; have HF2 : Hid (WkF base ⟨b, pA, pn, pc, pre, bc, bn, be, bm⟩ w w2) := (WkF.of_below HB0.out).trans (WkF.grown hg2' (fun i e => by cases e; exact ⟨hkDn, .inr (.inl rfl)⟩)); have HRW2 : Hid (WkR b w w2) := (WkR.of_below HB0.out hkb).trans (WkR.grown hg2' (fun i e => by cases e; exact ⟨ig HM0.out.ne, fun e => hbn e.symm⟩) (by omega)); have HBB2 : Hid (Below base w w2) := HF2.out.below hbw; have HP2 : Hid (Sl w2 base 3 pA pn (flat itC p)) := HP0.out.grown hg2' (by omega) (fun g e => by cases e; exact hkDn); have HK2 := ah (HK0.out.grown hg2' (fun e => by have := Option.some.inj e; omega)); have HZ2 := ah (HZ0.out.grown hg2' (fun e => by have := Option.some.inj e; omega)); have zw2 : w.heap.size + 2 <= w2.heap.size := by have := hg2'.size; omega
 obtain ⟨oA, oc, hbx, _⟩ := HM2.out.box; have HBX2 := ah hbx; unfold wkC at HBX2; simp only at HBX2; clear hbx hS2 hg2 hg2' HB0 HK0 HZ0 HM0 HP0 HBX HW0 zW0; have c0 := HBX2.out.cell 0; simp at c0; obtain ⟨x0, x1, _, _⟩ := HK2.out.two; have hb2 : base <= w2.heap.size := by omega
 have hbw2 : b < w2.heap.size := by omega
 have HC : Hid (∀ W, Below w2.heap.size w2 W -> Calls Tryz.prog 40 #[.slice pA pn pc, .agg #[.int .u64 d1, .int .u64 d2]] W fun e W' => ∃ (o : Ob) (s7 : Osl) (err : Int), e = .returned (.tuple #[.agg #[.int .i64 o.kind, .string o.data, .slice s7.eA s7.en s7.ec, .int .u64 o.tree.1, .int .u64 o.tree.2, .slice s7.pA s7.pn s7.pc, .string o.auth, .int .i64 o.time, .string o.msg], .int .i64 err]) /\ GCase p (d1, d2) w2.heap.size o s7 err W' /\ Below W.heap.size W W') := fun W hW => by
  refine (vD pA pn pc base p (d1, d2) W (HP2.out.below hW hb2) (Nat.le_trans hb2 hW.size) hpn HPO.out).mono ?_; rintro e W' ⟨⟨o, s', h1, h2, h3, h4, h5, h6⟩ | ⟨h1, h2⟩, hb⟩
  . exact ⟨o, s', 0, h3, .inl ⟨rfl, h1, h2, ⟨h4, h5.mono hW.size, h6.mono hW.size⟩⟩, hb⟩
  . exact ⟨zOb, zOs, 8, h2, .inr ⟨rfl, h1⟩, hb⟩
 have hwb : w.heap.size < w2.heap.size := by omega
 go_wp2_with fail
 go_cut [8, 9] from 15 to 23 (fun u v wx => ∃ (b8 : Nat) (o : Ob) (s7 : Osl) (err : Int), u = .pointer (some ⟨b8, 0, none⟩) /\ v = .int .i64 err /\ w2.heap.size <= b8 /\ Hid (Bk wx b8 75 #[.int .i64 o.kind, .string o.data, .slice s7.eA s7.en s7.ec, .int .u64 o.tree.1, .int .u64 o.tree.2, .slice s7.pA s7.pn s7.pc, .string o.auth, .int .i64 o.time, .string o.msg]) /\ Hid (GCase p (d1, d2) w2.heap.size o s7 err wx) /\ Hid (Below w2.heap.size w2 wx))
 case first =>
  go_region_law
   (first
     | (go_simp; go_at_call 40; refine (HC.out _ (by first | exact (Below.refl _ _).drew | exact ((Below.refl _ _).drew).alloc ai _)).mono ?_; rintro e w8 ⟨o, s7, err, rfl, hgc, hb8⟩
        have HGC := ah hgc; have HB8 := ah hb8
        first
         | (have HZ8 : Hid (Bk w8 w2.heap.size 75 zrC) := Bk.below (Bk.new w2.drew _ _) hb8 (by simp)
            have HBx : Hid (Below w2.heap.size w2 w8) := ((Below.refl _ w2).drew.alloc ai _).trans (hb8.mono (by simp)); obtain ⟨z0, z1, z2, z3, z4, z5, z6, z7, z8⟩ := HZ8.out.nine; obtain ⟨g0, g1, g2, g3, g4, g5, g6, g7, g8⟩ := fr9 HZ8.out)
         | (have HBx : Hid (Below w2.heap.size w2 w8) := (Below.refl _ w2).drew.trans hb8)
        clear hgc hb8))
  all_goals
   simp only [Exit.then]
   go_step
   go_meet
   first
    | exact ⟨w2.heap.size, o, s7, err, rfl, rfl, Nat.le_refl _, aQ HZ8.out _ _ _ _ _ _ _ _ _, HGC.out.set9 HZ8.out _ _ _ _ _ _ _ _ _, aP HBx.out ai _ _ _ _ _ _ _ _ _⟩
    | exact ⟨w8.heap.size, o, s7, err, rfl, rfl, HBx.out.size, Bk.new _ _ _, HGC.out.bel ((Below.refl _ _).alloc ai _), HBx.out.alloc HBx.out.size _⟩
 case rest =>
  obtain ⟨b8, o, s7, err, rfl, rfl, hb8, hK, hG, hR⟩ := hcut; have HK5 := ah hK.out; have HG5 := ah hG.out; have HR := ah hR.out; clear hK hG hR c0 x0 x1; have HM5 := ah (HM2.out.below HR.out); have HF5 : Hid (WkF base ⟨b, pA, pn, pc, pre, bc, bn, be, bm⟩ w wc) := HF2.out.trans (WkF.of_below HR.out); have HRW5 : Hid (WkR b w wc) := HRW2.out.trans (WkR.of_below HR.out hbw2); have HZ5 := ah (HZ2.out.below HR.out (by omega)); have hwcz := HR.out.size; obtain ⟨y0, y1, y2, y3, y4, y5, y6, y7, y8⟩ := HK5.out.nine; obtain ⟨r0, r1, r2, r3, r4, r5, r6, r7, r8⟩ := HZ5.out.nine; obtain ⟨f0, f1, f2, f3, f4, f5, f6, f7, f8⟩ := fr9 HZ5.out; have hne1 : b8 ≠ w.heap.size + 1 := by omega
  have hne2 : w.heap.size + 1 ≠ b8 := by omega
  rcases HG5.out with ⟨rfl, hg, hok, hob⟩ | ⟨rfl, hg⟩
  . have HG := ah hg; have HOK := ah hok; have HO5 := ah hob
    clear hg hok hob HG5; by_cases hk : o.kind = kd
    . have HGS := ah (Eo (s := s) (kd := kd) HG.out hk)
      have t1 : (o.kind != kd) = false := by rw [hk]; simp
      clear hk; go_wp2_with fail; refine bodyPost_ret (aX Tryz.results74 rfl (aQ HZ5.out _ _ _ _ _ _ _ _ _) rfl) rfl ⟨.inl ⟨o, s7, by rw [HGS.out], HOK.out, rfl, ?_⟩, ?_, ?_, ?_⟩
      . have := HO5.out.set9 HZ5.out (.int .i64 o.kind) (.string o.data) (.slice s7.eA s7.en s7.ec) (.int .u64 o.tree.1) (.int .u64 o.tree.2) (.slice s7.pA s7.pn s7.pc) (.string o.auth) (.int .i64 o.time) (.string o.msg)
        exact ⟨this.m, this.e.mono (by omega), this.p.mono (by omega)⟩
      . have := HM5.out.far9 HZ5.out (by decide) (by show w.heap.size + 1 ≠ b; omega) (.int .i64 o.kind) (.string o.data) (.slice s7.eA s7.en s7.ec) (.int .u64 o.tree.1) (.int .u64 o.tree.2) (.slice s7.pA s7.pn s7.pc) (.string o.auth) (.int .i64 o.time) (.string o.msg)
        rw [HGS.out]; exact this
      . exact oU HF5.out (x := w.heap.size + 1) (by omega) (.int .i64 o.kind) (.string o.data) (.slice s7.eA s7.en s7.ec) (.int .u64 o.tree.1) (.int .u64 o.tree.2) (.slice s7.pA s7.pn s7.pc) (.string o.auth) (.int .i64 o.time) (.string o.msg)
      . exact oh HRW5.out (r := w.heap.size + 1) (by omega) (by omega) (.int .i64 o.kind) (.string o.data) (.slice s7.eA s7.en s7.ec) (.int .u64 o.tree.1) (.int .u64 o.tree.2) (.slice s7.pA s7.pn s7.pc) (.string o.auth) (.int .i64 o.time) (.string o.msg)
    . have HGS := ah (CK (s := s) (kd := kd) HG.out hk)
      have t1 : (o.kind != kd) = true := by rw [bne_iff_ne]; exact hk
      clear hk; obtain ⟨oA5, oc5, hbx5, _⟩ := HM5.out.box; have HBX5 := ah hbx5; unfold wkC at HBX5; simp only at HBX5; clear hbx5; have q7 := HBX5.out.cell 7; have fq7 := HBX5.out.free 7; simp at q7; have hne3 : b ≠ b8 := by omega
      have hne4 : b8 ≠ b := by omega
      have hne5 : b ≠ w.heap.size + 1 := by omega
      have hne6 : w.heap.size + 1 ≠ b := by omega
      obtain ⟨W6, hW6⟩ : ∃ W6, wc.setCell ⟨b, 7, none⟩ (.bool true) = W6 := ⟨_, rfl⟩
      have HM6 : Hid (WkM W6 base ⟨b, pA, pn, pc, pre, bc, bn, be, bm⟩ com Nc (N + 1) { s with ne := aK s.ne (d1, d2), wr := true }) := by rw [<- hW6]; exact HM5.out.setWr
      have HF6 : Hid (WkF base ⟨b, pA, pn, pc, pre, bc, bn, be, bm⟩ w W6) := by rw [<- hW6]; exact HF5.out.trans (WkF.set hkD 7 (.bool true))
      have HRW6 : Hid (WkR b w W6) := by rw [<- hW6]; exact HRW5.out.trans (WkR.own HBX5.out (by decide) 7 (by decide) (.bool true))
      have HZ6 : Hid (Bk W6 (w.heap.size + 1) 75 zrC) := by rw [<- hW6]; exact HZ5.out.far (by show w.heap.size + 1 ≠ b; omega) _
      have HK6 : Hid (Bk W6 b8 75 #[.int .i64 o.kind, .string o.data, .slice s7.eA s7.en s7.ec, .int .u64 o.tree.1, .int .u64 o.tree.2, .slice s7.pA s7.pn s7.pc, .string o.auth, .int .i64 o.time, .string o.msg]) := by rw [<- hW6]; exact HK5.out.far (by show b8 ≠ b; omega) _
      obtain ⟨y0b, y1b, y2b, y3b, y4b, y5b, y6b, y7b, y8b⟩ := HK6.out.nine; obtain ⟨r0b, r1b, r2b, r3b, r4b, r5b, r6b, r7b, r8b⟩ := HZ6.out.nine; obtain ⟨f0b, f1b, f2b, f3b, f4b, f5b, f6b, f7b, f8b⟩ := fr9 HZ6.out; go_wp2_with fail; refine bodyPost_ret (aX Tryz.results74 rfl (aQ HZ6.out _ _ _ _ _ _ _ _ _) rfl) rfl ⟨.inr ⟨by rw [HGS.out], o, s7, rfl⟩, ?_, ?_, ?_⟩
      . have := HM6.out.far9 HZ6.out (by decide) (by show w.heap.size + 1 ≠ b; omega) (.int .i64 o.kind) (.string o.data) (.slice s7.eA s7.en s7.ec) (.int .u64 o.tree.1) (.int .u64 o.tree.2) (.slice s7.pA s7.pn s7.pc) (.string o.auth) (.int .i64 o.time) (.string o.msg)
        rw [HGS.out]; exact this
      . exact oU HF6.out (x := w.heap.size + 1) (by omega) (.int .i64 o.kind) (.string o.data) (.slice s7.eA s7.en s7.ec) (.int .u64 o.tree.1) (.int .u64 o.tree.2) (.slice s7.pA s7.pn s7.pc) (.string o.auth) (.int .i64 o.time) (.string o.msg)
      . exact oh HRW6.out (r := w.heap.size + 1) (by omega) (by omega) (.int .i64 o.kind) (.string o.data) (.slice s7.eA s7.en s7.ec) (.int .u64 o.tree.1) (.int .u64 o.tree.2) (.slice s7.pA s7.pn s7.pc) (.string o.auth) (.int .i64 o.time) (.string o.msg)
  . have HGS := ah (D6 (s := s) (kd := kd) hg)
    clear hg HG5; go_wp2_with fail; refine bodyPost_ret (aX Tryz.results74 rfl (aQ HZ5.out _ _ _ _ _ _ _ _ _) rfl) rfl ⟨.inr ⟨by rw [HGS.out], o, s7, rfl⟩, ?_, ?_, ?_⟩
    . have := HM5.out.far9 HZ5.out (by decide) (by show w.heap.size + 1 ≠ b; omega) (.int .i64 o.kind) (.string o.data) (.slice s7.eA s7.en s7.ec) (.int .u64 o.tree.1) (.int .u64 o.tree.2) (.slice s7.pA s7.pn s7.pc) (.string o.auth) (.int .i64 o.time) (.string o.msg)
      rw [HGS.out]; exact this
    . exact oU HF5.out (x := w.heap.size + 1) (by omega) (.int .i64 o.kind) (.string o.data) (.slice s7.eA s7.en s7.ec) (.int .u64 o.tree.1) (.int .u64 o.tree.2) (.slice s7.pA s7.pn s7.pc) (.string o.auth) (.int .i64 o.time) (.string o.msg)
    . exact oh HRW5.out (r := w.heap.size + 1) (by omega) (by omega) (.int .i64 o.kind) (.string o.data) (.slice s7.eA s7.en s7.ec) (.int .u64 o.tree.1) (.int .u64 o.tree.2) (.slice s7.pA s7.pn s7.pc) (.string o.auth) (.int .i64 o.time) (.string o.msg)
end
def scV (dep : Int) (pre : ByteArray) : Value := .agg #[.int .i64 dep, .string pre]
def scE (dep : Int) (pre : ByteArray) : Int := if dep < 0 then 2 else if 100 < pre.size then 4 else 0
theorem Dt (dep : Int) (pre : ByteArray) (w : World) : Calls Tryz.prog 26 #[scV dep pre] w fun e w' => e = .returned (.int .i64 (scE dep pre)) /\ Below w.heap.size w w' := by
 have hb : Below w.heap.size w (w.alloc (.cells #[.int .i64 dep, .string pre] 26)) := (Below.refl _ w).alloc ai _; unfold scE scV; by_cases h1 : dep < 0
 . rw [if_pos h1]
   go_enter Tryz.func26, Tryz.ntmps26
   go_wp2_with fail; go_ret
   exact ⟨rfl, hb⟩
 . rw [if_neg h1]
   by_cases h2 : 100 < pre.size
   . rw [if_pos h2]
     have h2' : (100 : Int) < (pre.size : Int) := by omega
     go_enter Tryz.func26, Tryz.ntmps26
     go_wp2_with fail; go_ret
     exact ⟨rfl, hb⟩
   . rw [if_neg h2]
     have h2' : ¬ (100 : Int) < (pre.size : Int) := by omega
     go_enter Tryz.func26, Tryz.ntmps26
     go_wp2_with fail; go_ret
     exact ⟨rfl, hb⟩
theorem Cb (dep : Int) (pre : ByteArray) (w : World) : Calls Tryz.prog 29 #[scV dep pre] w fun e w' => e = .returned (.int .i64 (scE dep pre)) /\ Below w.heap.size w w' := by
 have hb : Below w.heap.size w (w.alloc (.cells #[.int .i64 dep, .string pre] 26)) := (Below.refl _ w).alloc ai _; unfold scE scV; by_cases h1 : dep < 0
 . rw [if_pos h1]
   go_enter Tryz.func29, Tryz.ntmps29
   go_wp2_with fail; go_ret
   exact ⟨rfl, hb⟩
 . rw [if_neg h1]
   by_cases h2 : 100 < pre.size
   . rw [if_pos h2]
     have h2' : (100 : Int) < (pre.size : Int) := by omega
     go_enter Tryz.func29, Tryz.ntmps29
     go_wp2_with fail; go_ret
     exact ⟨rfl, hb⟩
   . rw [if_neg h2]
     have h2' : ¬ (100 : Int) < (pre.size : Int) := by omega
     go_enter Tryz.func29, Tryz.ntmps29
     go_wp2_with fail; go_ret
     exact ⟨rfl, hb⟩
theorem kD (s p : ByteArray) (w : World) (hp : p.size <= maxLen) : Calls Tryz.prog 36 #[.string s, .string p] w fun e w' => e = .returned (.bool (Lib.hasPrefix (bl s) (bl p))) /\ w = w' := by
 rw [Av]; have hp' : p.size <= 9223372036854775807 := by unfold maxLen at hp; exact hp
 go_enter Tryz.func36, Tryz.ntmps36
 by_cases h : p.size <= s.size
 . have HV : Hid ((decide (p.size <= s.size) && decide (s.extract 0 p.size = p)) = decide (s.extract 0 p.size = p)) := by show _ = _; rw [decide_eq_true h, Bool.true_and]
   have h1 : ¬ (s.size : Int) < (p.size : Int) := by omega
   have h2 : (p.size : Int) <= (s.size : Int) := by omega
   have hd := dx (s.extract 0 p.size) p; clear h; go_wp2_with fail; go_ret
   exact ⟨aZ (by rw [HV.out]), rfl⟩
 . have HV : Hid ((decide (p.size <= s.size) && decide (s.extract 0 p.size = p)) = false) := by show _ = _; rw [decide_eq_false h, Bool.false_and]
   have h1 : (s.size : Int) < (p.size : Int) := by omega
   have h2 : ¬ (p.size : Int) <= (s.size : Int) := by omega
   clear h; go_wp2_with fail; go_ret
   exact ⟨aZ (by rw [HV.out]), rfl⟩
theorem iK (s p : ByteArray) : Lib.hasPrefix (bl s) (bl p) = decide (toL p <+: toL s) := by
 show (toL p).isPrefixOf (toL s) = _; rw [Bool.eq_iff_iff, List.isPrefixOf_iff_prefix, decide_eq_true_iff]
section
open Go.Maps
section
variable {P : Program} {w w' : World} {base size n c : Nat} {e : TypeId} {A : OA} {xs : List Value}
theorem rq {ops : Array Oper} {o : Oper} {a : Act} {K : Act -> World -> Prop} {Q : Exit -> Act -> World -> Prop} {E : Prop} (hgd : o.guard = none) (s x : Operand) (t : TypeId)
  (ho : o.op = .call { callee := .builtin .append, args := #[s, x], argTypes := #[t, t] })
  (base : Nat) (e : TypeId) (i : TypeInfo) (z : Value) (size bytes : Nat) (ht : P.underlying t = some (.slice e)) (hi : P.info? e = some i) (hz : i.zero = some z)
  (hsize : i.size = size) (hby : i.bytes = bytes) (hzs : z.cells.size = size) (hsz : 0 < size)
  (A : OA) (n c : Nat) (xs : List Value) (hs : a.eval s = .slice A n c) (hown : Que w base e size A n c xs)
  (B : Nat) (A' : OA) (m c' : Nat) (ys : List Value) (hx : a.eval x = .slice A' m c') (hsl : Sl w B size A' m ys) (h1 : ∀ u ∈ ys, u.oneCell' = true) (hm : 0 < m)
  (h63 : n + m <= maxLen) (hbytes : (n + m) * bytes <= 140737488355328) (hbase : base <= w.heap.size)
  (h : ∀ A2 c2 w' row, Que w' base e size A2 (n + m) c2 (xs ++ ys) -> w.grownBy w' row -> (∀ g, row = some g -> base <= g /\ (∃ cur, w.heap[g]? = some (.cells cur e (0, 0))) /\ ∃ off, A = some ⟨g, off, none⟩) -> (∀ a, A2 = some a -> (∃ off, A = some ⟨a.block, off, none⟩) ∨ w.heap.size <= a.block) -> K (a.put o.dst (.slice A2 (n + m) c2)) w') :
  if Region.wanted o (yielded ops a.tmps) = true then Oper.wp P o a w K Q else E := by
 have hw : Region.wanted o (yielded ops a.tmps) = true := by simp [Region.wanted, hgd]
 rw [if_pos hw]; obtain ⟨A2, c2, w', row, hr, ho', hg, hrow, hA⟩ := rA (P := P) t o.type i z bytes ht hi hz hsize hby hzs hsz hown (c' := c') hsl h1 hm h63 hbytes hbase; unfold Oper.wp; simp [execOp, ho, resolve, invoke, builtin, hs, hx, hr, Result.andThen]; refine h A2 c2 w' row ho' hg (fun g hgg => ⟨(hrow g hgg).1, (hrow g hgg).2.1, (hrow g hgg).2.2.2⟩) (fun ad had => ?_); obtain ⟨_, ⟨h0, _⟩ | ⟨g, off, cur, h2, _⟩⟩ := ho'
 . omega
 . rw [h2] at had
   cases had
   rcases hA g off h2 with ⟨_, h3⟩ | h3
   . exact .inl h3
   . exact .inr h3
end
section
variable {w w4 : World} {base : Nat} {k : Wkb} {com : Dig -> Bool} {Nc N : Nat} {s : WkS} {x : Pla}
theorem WkM.setMe (h : WkM w base k com Nc N s) (D : WkD base k) (hS : Sp14 w4 k.bm (N + 1) (aK s.me x)) (hg : w.grownBy w4 (some k.bm)) : WkM w4 base k com Nc (N + 1) { s with me := aK s.me x } := by
 obtain ⟨a1, a2, a3, a4⟩ := h.apart; obtain ⟨oA, oc, h1, h2, h3⟩ := h.box; have hme := h.me; exact ⟨⟨oA, oc, h1.grown hg (fun e => a4 (Option.some.inj e)), h2.grown14 hg (fun cs => hme.notCells), h3⟩, h.com.kept hg (fun e => D.cm (Option.some.inj e)), (h.ne.kept hg (fun e => D.nm (Option.some.inj e))).more (by omega), (h.ed.kept hg (fun e => D.em (Option.some.inj e))).more (by omega), hS⟩
theorem WkM.pushed {row : Option Nat} {A4 : OA} {c4 : Nat} (h : WkM w base k com Nc N s) (hg : w.grownBy w4 row) (hr : ∀ g, row = some g -> isRow 132 w.heap[g]?)
  (ha : Que w4 base 132 3 A4 (s.op.length + 1) c4 (flat eU (s.op ++ [x]))) (h1 : s.op.length + 1 <= c4) (h2 : c4 <= maxLen) :
  WkM (w4.setCell ⟨k.b, 6, none⟩ (.slice A4 (s.op.length + 1) c4)) base k com Nc N { s with op := s.op ++ [x] } := by
 obtain ⟨a1, a2, a3, a4⟩ := h.apart; obtain ⟨oA, oc, hb, _, _⟩ := h.box; have hb4 : Bk w4 k.b 67 (wkC k oA s.op.length oc s.wr) := hb.grown hg (fun e => by
  have := hr _ e.symm; rw [show w.heap[k.b]? = _ from hb] at this; exact absurd (show (67 : Nat) = 132 from this) (by decide))
 have hlen : (s.op ++ [x]).length = s.op.length + 1 := by simp
 have mk : ∀ {α : Type} {P : Program} {kt : TypeId} {sb : α -> List UInt8} {ok : α -> Prop} {b N : Nat} {g : α -> Option Value}, Gm w P kt sb ok b N g -> b ≠ k.b -> Gm (w4.setCell ⟨k.b, 6, none⟩ (.slice A4 (s.op.length + 1) c4)) P kt sb ok b N g := fun hG hne =>
  (hG.kept hg (fun e => ig hG (hr _ e.symm))).setc hne
 refine ⟨⟨A4, c4, ?_, ?_, ?_, h2⟩, mk h.com a1.symm, mk h.ne a2.symm, mk h.ed a3.symm, mk h.me a4.symm⟩
 . have := hb4.set 6 (.slice A4 (s.op.length + 1) c4)
   show Bk _ _ _ (wkC k A4 (s.op ++ [x]).length c4 s.wr); rw [hlen]; unfold wkC at this ⊢; simpa using this
 . show Que _ _ _ _ _ (s.op ++ [x]).length _ _
   rw [hlen]; exact ha.box hb4 (by decide) 6 _
 . show (s.op ++ [x]).length <= c4
   rw [hlen]; exact h1
end
theorem uk {s : WkS} {x : Pla} (h : s.me x = true) : bY s x = s := by unfold bY; rw [if_pos h]
theorem uG {s : WkS} {x : Pla} (h : s.me x = false) : bY s x = { s with me := aK s.me x, op := s.op ++ [x] } := by unfold bY; rw [if_neg (by rw [h]; decide)]
def WdE (base : Nat) (k : Wkb) (com : Dig -> Bool) (Nc N : Nat) (s' : WkS) (w : World) (e : Ending) (w' : World) : Prop :=
 (∃ v, e = .returned v) /\ WkM w' base k com Nc (N + 1) s' /\ WkF base k w w' /\ WkR k.b w w'
theorem vg (base : Nat) (k : Wkb) (com : Dig -> Bool) (Nc N : Nat) (s : WkS) (d : Dig) (q : ByteArray) (w : World) (hM : WkM w base k com Nc N s) (hD : WkD base k) (_hbw : base <= w.heap.size) (hN : N < maxLen) (hd : WfD d) (hpr : k.pre.size <= maxLen) (hop : s.op.length <= 2000000) :
  Calls Tryz.prog 75 #[.pointer (some ⟨k.b, 0, none⟩), az d, .string q] w (WdE base k com Nc N (bH k.pre s d q) w) := by
 obtain ⟨d1, d2⟩ := d; have HD := ah hD; have HWD := ah (dF hd); obtain ⟨W0, hW0⟩ : ∃ W, w.alloc (.cells #[.int .u64 d1, .int .u64 d2] 42) = W := ⟨_, rfl⟩
 have HB0 : Hid (Below w.heap.size w W0) := by rw [<- hW0]; exact (Below.refl _ w).alloc ai _
 have HK0 : Hid (Bk W0 w.heap.size 42 #[.int .u64 d1, .int .u64 d2]) := by rw [<- hW0]; exact Bk.new w _ _
 have zW0 : w.heap.size < W0.heap.size := HK0.out.lt; have HM0 := ah (hM.below HB0.out); have HF0 : Hid (WkF base k w W0) := WkF.of_below HB0.out; have hkb : k.b < w.heap.size := hM.lt.1; have HRW0 : Hid (WkR k.b w W0) := WkR.of_below HB0.out hkb; have hkD := hD.b; obtain ⟨oA, oc, hbx, _⟩ := HM0.out.box; have HBX := ah hbx; have HPR := ah hpr; have HP1 := ah (Tryz.strings_HasPrefix q k.pre W0); have HP2 := ah (Tryz.strings_HasPrefix k.pre q W0); have hq1 : Lib.hasPrefix q.data.toList k.pre.data.toList = decide (toL k.pre <+: toL q) := iK q k.pre; have hq2 : Lib.hasPrefix k.pre.data.toList q.data.toList = decide (toL q <+: toL k.pre) := iK k.pre q; rw [hq1] at HP1; rw [hq2] at HP2; have HME : Hid (k.bm ≠ k.b) := hM.apart.2.2.2.symm; have HMB := ah hD.bm; clear hM hD hbx hd hq1 hq2 hpr; obtain ⟨b, pA, pn, pc, pre, bc, bn, be, bm⟩ := k; unfold wkC at HBX; simp only at hkb hkD HBX HP1 HP2 HPR HME HMB HRW0 ⊢; simp only [az]; have c1 := HBX.out.cell 1; simp at c1; have HW0 := ah hW0; clear hW0
 -- the two ways to a place
 have HWAY : Hid ((toL pre <+: toL q /\ bH pre s (d1, d2) q = bY s ((d1, d2), pre)) ∨ (¬ toL pre <+: toL q /\ toL q <+: toL pre /\ bH pre s (d1, d2) q = bY s ((d1, d2), q)) ∨ (¬ toL pre <+: toL q /\ ¬ toL q <+: toL pre /\ bH pre s (d1, d2) q = s)) := by
  show _ ∨ _ ∨ _; unfold bH; by_cases h1 : toL pre <+: toL q
  . exact .inl ⟨h1, by rw [if_pos h1]⟩
  . by_cases h2 : toL q <+: toL pre
    . exact .inr (.inl ⟨h1, h2, by rw [if_neg h1, if_pos h2]⟩)
    . exact .inr (.inr ⟨h1, h2, by rw [if_neg h1, if_neg h2]⟩)
 obtain ⟨i0, hi, hz0, hz1, hz2⟩ := info_parts wT; have Hi := ah hi; have Hz0 := ah hz0; have Hz1 := ah hz1; have Hz2 := ah hz2; clear hi hz0 hz1 hz2; obtain ⟨x0, x1, _, _⟩ := HK0.out.two; rw [<- HW0.out] at c1 x0 x1; rcases HWAY.out with ⟨h1, hw⟩ | ⟨h1, h2, hw⟩ | ⟨h1, h2, hw⟩
 case inr.inr =>
  rw [decide_eq_false h1] at HP1; rw [decide_eq_false h2] at HP2; rw [hw]; clear h1 h2 hw HWAY
  go_enter Tryz.func75, Tryz.ntmps75
  go_wp2_with fail; rw [HW0.out]; refine HP1.out.mono ?_; rintro e w1 ⟨rfl, rfl⟩; rw [<- HW0.out]; go_wp2_with fail; rw [HW0.out]; refine HP2.out.mono ?_; rintro e w1 ⟨rfl, rfl⟩; go_wp2_with fail
  go_end0
  exact ⟨⟨_, rfl⟩, HM0.out.more (by omega), HF0.out, HRW0.out⟩
 case inl =>
  have hxs : pre.size <= maxLen := HPR.out; rw [decide_eq_true h1] at HP1; rw [hw]; clear h1 hw HWAY
  go_enter Tryz.func75, Tryz.ntmps75
  go_wp2_with fail; rw [HW0.out]; refine HP1.out.mono ?_; rintro e w1 ⟨rfl, rfl⟩; rw [HW0.out] at c1 x0 x1; have HXS := ah hxs; have HKx := HXS; clear hxs; obtain ⟨W1, hW1⟩ : ∃ W, w1.alloc (.cells #[.int .u64 d1, .int .u64 d2, .string pre] 132) = W := ⟨_, rfl⟩
  have HKp : Hid (Bk W1 w1.heap.size 132 #[.int .u64 d1, .int .u64 d2, .string pre]) := by rw [<- hW1]; exact Bk.new w1 _ _
  have HB1 : Hid (Below w1.heap.size w1 W1) := by rw [<- hW1]; exact (Below.refl _ w1).alloc ai _
  have HM1 := ah (HM0.out.below HB1.out); have HF1 : Hid (WkF base ⟨b, pA, pn, pc, pre, bc, bn, be, bm⟩ w W1) := HF0.out.trans (WkF.of_below HB1.out); have HRW1 : Hid (WkR b w W1) := HRW0.out.trans (WkR.of_below HB1.out (by omega)); have hb1 : base <= W1.heap.size := by have := HF1.out.size; omega
  obtain ⟨oA1, oc1, hbx1, hap1, hoc1, hocm1⟩ := HM1.out.box; have HBX1 := ah hbx1; have HAP1 := ah hap1; have HOC1 := ah hoc1; unfold wkC at HBX1; simp only at HBX1; have c1 := HBX1.out.cell 1; have c5 := HBX1.out.cell 5; have c6 := HBX1.out.cell 6; have f6 := HBX1.out.free 6; simp at c1 c5 c6; obtain ⟨y0, y1, y2⟩ := HKp.out.three; have HLK : Hid (∀ j, (Instr.lookup 64 (.map (some bm)) (.agg #[.int .u64 d1, .int .u64 d2, .string pre]) false).run Tryz.prog (W1.drewN j) = .ok (.bool (s.me ((d1, d2), pre))) (W1.drewN j)) := fun j => Sp14.look (x := ((d1, d2), pre)) (HM1.out.me.below (aM (Below.refl W1.heap.size W1) j) HM1.out.me.lt) Tryz.underlying64 ⟨HWD.out, HXS.out⟩; clear hbx1 hap1 hoc1 HKx; by_cases hm : s.me ((d1, d2), pre) = true
  . have hlk := HLK.out
    rw [hm] at hlk; have HPS := ah (uk hm); clear hm; go_wp2_with fail
    go_quiet (fail)
    go_wp2_with fail
    go_end0
    exact ⟨⟨_, rfl⟩, by rw [HPS.out]; exact (HM1.out.below (aM (Below.refl _ _) _)).more (Nat.le_succ N), HF1.out.trans (WkF.of_below (aM (Below.refl _ _) _)), HRW1.out.trans (WkR.of_below (aM (Below.refl _ _) _) HBX1.out.lt)⟩
  . rw [Bool.not_eq_true] at hm
    have hlk := HLK.out; rw [hm] at hlk; have HPS := ah (uG hm); clear hm; go_wp2_with fail
    go_quiet (fail)
    obtain ⟨w2, hw2⟩ : ∃ u, u = W1.drewN nq := ⟨_, rfl⟩
    have hbd : Below W1.heap.size W1 w2 := by rw [hw2]; exact aM (Below.refl _ _) _
    have HM2 := ah (HM1.out.below hbd); have HF2 : Hid (WkF base ⟨b, pA, pn, pc, pre, bc, bn, be, bm⟩ w w2) := HF1.out.trans (WkF.of_below hbd); have HRW2 : Hid (WkR b w w2) := HRW1.out.trans (WkR.of_below hbd HBX1.out.lt); have HKp2 := ah (HKp.out.below hbd HKp.out.lt); have HBX2 := ah (HBX1.out.below hbd HBX1.out.lt); have hb2 : base <= w2.heap.size := by have := hbd.size; omega
    have HZ2 : Hid (w1.heap.size < w2.heap.size) := HKp2.out.lt; rw [<- hw2]; clear hw2 hbd hlk HLK HM1 HF1 HRW1 HRW0 HKp HBX1 c1 c5 c6 f6 y0 y1 y2 HAP1 HB1 HB0 HM0 HF0 x0 x1 hW1; have c5 := HBX2.out.cell 5; simp at c5; obtain ⟨y0, y1, y2⟩ := HKp2.out.three; go_wp2_with fail
    go_still_tail 5, (by kernel_rfl)
    change wpList _ _ _ _ _ w2.drew; clear c5 y0 y1 y2; refine rQ rfl _ _ _ 64 rfl Tryz.underlying64 bm N s.me rfl HM2.out.me hN ((d1, d2), pre) ⟨HWD.out, HXS.out⟩ rfl rfl ?_; intro w3 hS3 hg3; have hg3' : w2.grownBy w3 (some bm) := ⟨hg3.os, hg3.tape, hg3.output, hg3.size, hg3.block⟩
    have HM3 : Hid (WkM w3 base ⟨b, pA, pn, pc, pre, bc, bn, be, bm⟩ com Nc (N + 1) { s with me := aK s.me ((d1, d2), pre) }) := HM2.out.setMe HD.out hS3 hg3'; have HF3 : Hid (WkF base ⟨b, pA, pn, pc, pre, bc, bn, be, bm⟩ w w3) := HF2.out.trans (WkF.grown hg3' (fun i e => by cases e; exact ⟨HMB.out, .inr (.inr (.inr (.inl rfl)))⟩)); have HRW3 : Hid (WkR b w w3) := HRW2.out.trans (WkR.grown hg3' (fun i e => by cases e; exact ⟨ig HM2.out.me, HME.out⟩) HBX2.out.lt); have HKp3 : Hid (Bk w3 w1.heap.size 132 #[.int .u64 d1, .int .u64 d2, .string pre]) := HKp2.out.grown hg3' (fun e => HM2.out.me.notCells (show w2.heap[bm]? = _ from by rw [<- Option.some.inj e]; exact HKp2.out)); have hb3 : base <= w3.heap.size := by have := hg3'.size; omega
    clear hS3 hg3 hg3' HM2 HF2 HKp2 HBX2; obtain ⟨oA3, oc3, hbx3, hap3, hoc3, hocm3⟩ := HM3.out.box; have HBX3 := ah hbx3; have HAP3 := ah hap3; unfold wkC at HBX3; simp only at HBX3 HAP3 hoc3; obtain ⟨on, hon⟩ : ∃ on, s.op.length = on := ⟨_, rfl⟩
    have HON := ah hon; rw [hon] at HBX3 HAP3 hoc3 hop; have HOC3 := ah hocm3; clear hbx3 hap3 hon hocm3; have c6 := HBX3.out.cell 6; simp at c6; obtain ⟨y0, y1, y2⟩ := HKp3.out.three; have f6 := HBX3.out.free 6; have hbl3 : b < w3.heap.size := HBX3.out.lt; have hkl3 : w1.heap.size < w3.heap.size := HKp3.out.lt; go_wp2_with fail
    go_region_law
     (first
       | (refine rq (by rfl) (.tmp 43) (.tmp 45) 65 (by rfl) base 132 i0 _ 3 32 Tryz.underlying65 Hi.out Hz0.out Hz1.out Hz2.out rfl (by decide) oA3 on oc3 (flat eU s.op) (by rfl) (HAP3.out.bel (((Below.refl _ _).drew).alloc ai _)) _ (some ⟨w3.heap.size, 0, none⟩) 1 1 (flat eU [((d1, d2), pre)]) (by rfl) (Sl.of_bk (n := 1) (size := 3) (Bk.new w3.drew 132 #[.int .u64 d1, .int .u64 d2, .string pre]) rfl) (ve _) (by decide) (by unfold maxLen; omega) (by omega) (by show base <= (w3.alloc _).heap.size; rw [World.size_alloc]; omega) ?_
          intro A4 c4 w4 row ha4 hg4 hr4 hA4; rw [<- bT] at ha4; have HBA : Hid (Below w3.heap.size w3 (World.drew (w3.alloc (.cells #[.int .u64 d1, .int .u64 d2, .string pre] 132)))) := ((Below.refl _ _).alloc ai _).drew; have HMA := ah (HM3.out.below HBA.out); have HA4 := ah ha4; have HG4 := ah hg4; have HR4 := ah hr4; have HAA4 := ah hA4; have HBXA := ah (HBX3.out.below HBA.out hbl3); have HB4 : Hid (Bk w4 b 67 #[.slice pA pn pc, .string pre, .map (some bc), .map (some bn), .map (some be), .map (some bm), .slice oA3 on oc3, .bool s.wr]) := by
           refine (HG4.out.block b (by simp; omega) (fun e => ?_)).trans HBXA.out; obtain ⟨_, ⟨cur, h5⟩, _⟩ := HR4.out _ e.symm; rw [show (World.drew (w3.alloc _)).heap[b]? = _ from HBXA.out] at h5; have := Option.some.inj h5; injection this with _ h6; exact absurd (show (67 : Nat) = 132 from h6) (by decide)
          have q6 := HB4.out.cell 6; have g6 := HB4.out.free 6; simp at q6; clear ha4 hg4 hr4 hA4))
    all_goals
     go_wp2_with fail
     go_end0
     have hp := HMA.out.pushed HG4.out (fun g e => by obtain ⟨_, ⟨cur, h5⟩, _⟩ := HR4.out g e; rw [h5]; exact rfl) (by rw [HON.out]; exact HA4.out) (by rw [HON.out]; exact HA4.out.le.1) HA4.out.le.2; simp only [HON.out] at hp; exact ⟨⟨_, rfl⟩, by rw [HPS.out]; exact hp, (HF3.out.trans ((WkF.of_below HBA.out).trans (WkF.grown HG4.out (fun i e => ⟨(HR4.out i e).1, .inr (.inr (.inr (.inr (by obtain ⟨_, ⟨cur, h5⟩, _⟩ := HR4.out i e; rw [h5]; exact rfl))))⟩)))).trans (WkF.set hkD 6 _), (HRW3.out.trans (WkR.of_below HBA.out hbl3)).trans (WkR.push HBXA.out rfl HG4.out (fun g e => ⟨(HR4.out g e).2.1, (HR4.out g e).2.2⟩) HAA4.out (by simp))⟩
 case inr.inl =>
  have hxs : q.size <= maxLen := by
   have h3 := h2.length_le; have h4 := HPR.out; have e1 : (toL q).length = q.size := by unfold toL; simp
   have e2 : (toL pre).length = pre.size := by unfold toL; simp
   omega
  rw [decide_eq_false h1] at HP1; rw [decide_eq_true h2] at HP2; rw [hw]; clear h1 h2 hw HWAY
  go_enter Tryz.func75, Tryz.ntmps75
  go_wp2_with fail; rw [HW0.out]; refine HP1.out.mono ?_; rintro e w1 ⟨rfl, rfl⟩; rw [<- HW0.out]; go_wp2_with fail; rw [HW0.out]; refine HP2.out.mono ?_; rintro e w1 ⟨rfl, rfl⟩; rw [HW0.out] at c1 x0 x1; have HXS := ah hxs; have HKx := HXS; clear hxs; obtain ⟨W1, hW1⟩ : ∃ W, w1.alloc (.cells #[.int .u64 d1, .int .u64 d2, .string q] 132) = W := ⟨_, rfl⟩
  have HKp : Hid (Bk W1 w1.heap.size 132 #[.int .u64 d1, .int .u64 d2, .string q]) := by rw [<- hW1]; exact Bk.new w1 _ _
  have HB1 : Hid (Below w1.heap.size w1 W1) := by rw [<- hW1]; exact (Below.refl _ w1).alloc ai _
  have HM1 := ah (HM0.out.below HB1.out); have HF1 : Hid (WkF base ⟨b, pA, pn, pc, pre, bc, bn, be, bm⟩ w W1) := HF0.out.trans (WkF.of_below HB1.out); have HRW1 : Hid (WkR b w W1) := HRW0.out.trans (WkR.of_below HB1.out (by omega)); have hb1 : base <= W1.heap.size := by have := HF1.out.size; omega
  obtain ⟨oA1, oc1, hbx1, hap1, hoc1, hocm1⟩ := HM1.out.box; have HBX1 := ah hbx1; have HAP1 := ah hap1; have HOC1 := ah hoc1; unfold wkC at HBX1; simp only at HBX1; have c1 := HBX1.out.cell 1; have c5 := HBX1.out.cell 5; have c6 := HBX1.out.cell 6; have f6 := HBX1.out.free 6; simp at c1 c5 c6; obtain ⟨y0, y1, y2⟩ := HKp.out.three; have HLK : Hid (∀ j, (Instr.lookup 64 (.map (some bm)) (.agg #[.int .u64 d1, .int .u64 d2, .string q]) false).run Tryz.prog (W1.drewN j) = .ok (.bool (s.me ((d1, d2), q))) (W1.drewN j)) := fun j => Sp14.look (x := ((d1, d2), q)) (HM1.out.me.below (aM (Below.refl W1.heap.size W1) j) HM1.out.me.lt) Tryz.underlying64 ⟨HWD.out, HXS.out⟩; clear hbx1 hap1 hoc1 HKx; by_cases hm : s.me ((d1, d2), q) = true
  . have hlk := HLK.out
    rw [hm] at hlk; have HPS := ah (uk hm); clear hm; go_wp2_with fail
    go_quiet (fail)
    go_wp2_with fail
    go_end0
    exact ⟨⟨_, rfl⟩, by rw [HPS.out]; exact (HM1.out.below (aM (Below.refl _ _) _)).more (Nat.le_succ N), HF1.out.trans (WkF.of_below (aM (Below.refl _ _) _)), HRW1.out.trans (WkR.of_below (aM (Below.refl _ _) _) HBX1.out.lt)⟩
  . rw [Bool.not_eq_true] at hm
    have hlk := HLK.out; rw [hm] at hlk; have HPS := ah (uG hm); clear hm; go_wp2_with fail
    go_quiet (fail)
    obtain ⟨w2, hw2⟩ : ∃ u, u = W1.drewN nq := ⟨_, rfl⟩
    have hbd : Below W1.heap.size W1 w2 := by rw [hw2]; exact aM (Below.refl _ _) _
    have HM2 := ah (HM1.out.below hbd); have HF2 : Hid (WkF base ⟨b, pA, pn, pc, pre, bc, bn, be, bm⟩ w w2) := HF1.out.trans (WkF.of_below hbd); have HRW2 : Hid (WkR b w w2) := HRW1.out.trans (WkR.of_below hbd HBX1.out.lt); have HKp2 := ah (HKp.out.below hbd HKp.out.lt); have HBX2 := ah (HBX1.out.below hbd HBX1.out.lt); have hb2 : base <= w2.heap.size := by have := hbd.size; omega
    have HZ2 : Hid (w1.heap.size < w2.heap.size) := HKp2.out.lt; rw [<- hw2]; clear hw2 hbd hlk HLK HM1 HF1 HRW1 HRW0 HKp HBX1 c1 c5 c6 f6 y0 y1 y2 HAP1 HB1 HB0 HM0 HF0 x0 x1 hW1; have c5 := HBX2.out.cell 5; simp at c5; obtain ⟨y0, y1, y2⟩ := HKp2.out.three; go_wp2_with fail
    go_still_tail 5, (by kernel_rfl)
    change wpList _ _ _ _ _ w2.drew; clear c5 y0 y1 y2; refine rQ rfl _ _ _ 64 rfl Tryz.underlying64 bm N s.me rfl HM2.out.me hN ((d1, d2), q) ⟨HWD.out, HXS.out⟩ rfl rfl ?_; intro w3 hS3 hg3; have hg3' : w2.grownBy w3 (some bm) := ⟨hg3.os, hg3.tape, hg3.output, hg3.size, hg3.block⟩
    have HM3 : Hid (WkM w3 base ⟨b, pA, pn, pc, pre, bc, bn, be, bm⟩ com Nc (N + 1) { s with me := aK s.me ((d1, d2), q) }) := HM2.out.setMe HD.out hS3 hg3'; have HF3 : Hid (WkF base ⟨b, pA, pn, pc, pre, bc, bn, be, bm⟩ w w3) := HF2.out.trans (WkF.grown hg3' (fun i e => by cases e; exact ⟨HMB.out, .inr (.inr (.inr (.inl rfl)))⟩)); have HRW3 : Hid (WkR b w w3) := HRW2.out.trans (WkR.grown hg3' (fun i e => by cases e; exact ⟨ig HM2.out.me, HME.out⟩) HBX2.out.lt); have HKp3 : Hid (Bk w3 w1.heap.size 132 #[.int .u64 d1, .int .u64 d2, .string q]) := HKp2.out.grown hg3' (fun e => HM2.out.me.notCells (show w2.heap[bm]? = _ from by rw [<- Option.some.inj e]; exact HKp2.out)); have hb3 : base <= w3.heap.size := by have := hg3'.size; omega
    clear hS3 hg3 hg3' HM2 HF2 HKp2 HBX2; obtain ⟨oA3, oc3, hbx3, hap3, hoc3, hocm3⟩ := HM3.out.box; have HBX3 := ah hbx3; have HAP3 := ah hap3; unfold wkC at HBX3; simp only at HBX3 HAP3 hoc3; obtain ⟨on, hon⟩ : ∃ on, s.op.length = on := ⟨_, rfl⟩
    have HON := ah hon; rw [hon] at HBX3 HAP3 hoc3 hop; have HOC3 := ah hocm3; clear hbx3 hap3 hon hocm3; have c6 := HBX3.out.cell 6; simp at c6; obtain ⟨y0, y1, y2⟩ := HKp3.out.three; have f6 := HBX3.out.free 6; have hbl3 : b < w3.heap.size := HBX3.out.lt; have hkl3 : w1.heap.size < w3.heap.size := HKp3.out.lt; go_wp2_with fail
    go_region_law
     (first
       | (refine rq (by rfl) (.tmp 43) (.tmp 45) 65 (by rfl) base 132 i0 _ 3 32 Tryz.underlying65 Hi.out Hz0.out Hz1.out Hz2.out rfl (by decide) oA3 on oc3 (flat eU s.op) (by rfl) (HAP3.out.bel (((Below.refl _ _).drew).alloc ai _)) _ (some ⟨w3.heap.size, 0, none⟩) 1 1 (flat eU [((d1, d2), q)]) (by rfl) (Sl.of_bk (n := 1) (size := 3) (Bk.new w3.drew 132 #[.int .u64 d1, .int .u64 d2, .string q]) rfl) (ve _) (by decide) (by unfold maxLen; omega) (by omega) (by show base <= (w3.alloc _).heap.size; rw [World.size_alloc]; omega) ?_
          intro A4 c4 w4 row ha4 hg4 hr4 hA4; rw [<- bT] at ha4; have HBA : Hid (Below w3.heap.size w3 (World.drew (w3.alloc (.cells #[.int .u64 d1, .int .u64 d2, .string q] 132)))) := ((Below.refl _ _).alloc ai _).drew; have HMA := ah (HM3.out.below HBA.out); have HA4 := ah ha4; have HG4 := ah hg4; have HR4 := ah hr4; have HAA4 := ah hA4; have HBXA := ah (HBX3.out.below HBA.out hbl3); have HB4 : Hid (Bk w4 b 67 #[.slice pA pn pc, .string pre, .map (some bc), .map (some bn), .map (some be), .map (some bm), .slice oA3 on oc3, .bool s.wr]) := by
           refine (HG4.out.block b (by simp; omega) (fun e => ?_)).trans HBXA.out; obtain ⟨_, ⟨cur, h5⟩, _⟩ := HR4.out _ e.symm; rw [show (World.drew (w3.alloc _)).heap[b]? = _ from HBXA.out] at h5; have := Option.some.inj h5; injection this with _ h6; exact absurd (show (67 : Nat) = 132 from h6) (by decide)
          have q6 := HB4.out.cell 6; have g6 := HB4.out.free 6; simp at q6; clear ha4 hg4 hr4 hA4))
    all_goals
     go_wp2_with fail
     go_end0
     have hp := HMA.out.pushed HG4.out (fun g e => by obtain ⟨_, ⟨cur, h5⟩, _⟩ := HR4.out g e; rw [h5]; exact rfl) (by rw [HON.out]; exact HA4.out) (by rw [HON.out]; exact HA4.out.le.1) HA4.out.le.2; simp only [HON.out] at hp; exact ⟨⟨_, rfl⟩, by rw [HPS.out]; exact hp, (HF3.out.trans ((WkF.of_below HBA.out).trans (WkF.grown HG4.out (fun i e => ⟨(HR4.out i e).1, .inr (.inr (.inr (.inr (by obtain ⟨_, ⟨cur, h5⟩, _⟩ := HR4.out i e; rw [h5]; exact rfl))))⟩)))).trans (WkF.set hkD 6 _), (HRW3.out.trans (WkR.of_below HBA.out hbl3)).trans (WkR.push HBXA.out rfl HG4.out (fun g e => ⟨(HR4.out g e).2.1, (HR4.out g e).2.2⟩) HAA4.out (by simp))⟩
end
end Go.Proofs.YtlcecobipgmafaaGreatDoor
