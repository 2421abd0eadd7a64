/-
  What the rows share: the arguments opened, the last step, the witness's world.
-/
import Derived.Test.YtikmiabncbhioaaDoorOpn
import Derived.Test.YtikmiabncbhioaaDoorCards
import Derived.Test.YtikmiabncbhioaaDoorTie
import Derived.Deep.DeepHandedRow
import Derived.Lib.LaidTab
import Derived.Lib.LaidIn
namespace Go.Proofs.YtikmiabncbhioaaDoor
open Go.ChangeShapes Go.WideShapes Go.ChangeAt Go.RowKit Go.Joins Go.Deep

theorem own : ownKnob Tryd.prog.godebug = none := by kernel_rfl
theorem laidOut : laidOutB Tryd.prog = true := by kernel_rfl
theorem under26 : Tryd.prog.underlying 26 = some (.int .u64) := by kernel_rfl
theorem cells26 : Tryd.prog.cellsOf 26 = 1 := by kernel_rfl
theorem one25 : oneCellFields Tryd.prog (match Tryd.prog.underlying 25 with | some (.struct fs) => fs | _ => #[]) = true := by kernel_rfl

section
variable {H : Type} {enc : TypeId × Value → H} {W : World} {base : Nat} {v : Value} {d : DataW H} {p : List MemPlace} {r : Reach} {b0 : Nat} {sp : Nat → Bool} {held : Bool}
set_option maxRecDepth 100000 in
theorem open_upd (hv : Value.okWide Tryd.prog W r b0 30 v) (h : DataW.Trod enc Tryd.prog W base sp held 30 v d p) : ∃ u : Upd, v = updV u ∧ u.1.size ≤ maxLen := by
  obtain ⟨cs, rfl, hsz⟩ := okWide_struct Tryd.underlying30 hv
  obtain ⟨fuel, hf⟩ := h
  obtain ⟨u, hu, hz⟩ := trod_upP Tryd.underlying30 rfl rfl rfl rfl rfl rfl Tryd.underlying9 Tryd.underlying28 under26 cells30 cells9 cells28 cells26 hf
  refine ⟨u, ?_, hz⟩
  have : cs.toList = upC u := hu
  rw [show cs = (upC u).toArray by rw [← this]]
  rfl
set_option maxRecDepth 100000 in
theorem open_upds (hv : Value.okWide Tryd.prog W r b0 23 v) (h : DataW.Trod enc Tryd.prog W base sp held 23 v d p) : ∃ A n c us, v = .slice A n c ∧ Sl W W.heap.size 5 A n (flat upC us) ∧ n ≤ c ∧ c ≤ maxLen ∧ ∀ u ∈ us, u.1.size ≤ maxLen := by
  obtain ⟨A, n, c, rfl⟩ := okWide_slice Tryd.underlying23 hv
  obtain ⟨fuel, hf⟩ := h
  obtain ⟨A', n', c', us, he, h1, h2, h3, h4⟩ := trod_slP (encA := upC) (Q := fun u => u.1.size ≤ maxLen) Tryd.underlying23 cells30 (by omega) upC_len (fun _ _ _ hh => trod_upP Tryd.underlying30 rfl rfl rfl rfl rfl rfl Tryd.underlying9 Tryd.underlying28 under26 cells30 cells9 cells28 cells26 hh) hf
  refine ⟨A', n', c', us, ?_, h1, h2, h3, h4⟩
  have : [Value.slice A n c] = [Value.slice A' n' c'] := he
  simpa using this
set_option maxRecDepth 100000 in
theorem open_refs (hv : Value.okWide Tryd.prog W r b0 25 v) (h : DataW.Trod enc Tryd.prog W base sp held 25 v d p) : ∃ A0 n0 c0 A1 n1 c1 rs log, v = .agg #[.slice A0 n0 c0, .slice A1 n1 c1] ∧
    Sl W W.heap.size 3 A0 n0 (flat rfC rs) ∧ n0 ≤ c0 ∧ c0 ≤ maxLen ∧ Sl W W.heap.size 5 A1 n1 (flat upC log) ∧ n1 ≤ c1 ∧ c1 ≤ maxLen ∧ ∀ u ∈ log, u.1.size ≤ maxLen := by
  obtain ⟨v0, v1, y0, y1, n, rfl, _, _, h0, h1⟩ := open_agg2 Tryd.underlying25 one25 cells25 hv h
  obtain ⟨A0, n0, c0, rs, e0, a1, a2, a3, _⟩ := trod_slP (encA := rfC) (Q := fun u => u.1.size ≤ maxLen) Tryd.underlying22 cells56 (by omega) rfC_len (fun _ _ _ hh => trod_rfP Tryd.underlying56 rfl rfl rfl rfl Tryd.underlying9 Tryd.underlying28 under26 cells56 cells9 cells28 cells26 hh) h0
  obtain ⟨A1, n1, c1, us, e1, b1, b2, b3, b4⟩ := trod_slP (encA := upC) (Q := fun u => u.1.size ≤ maxLen) Tryd.underlying23 cells30 (by omega) upC_len (fun _ _ _ hh => trod_upP Tryd.underlying30 rfl rfl rfl rfl rfl rfl Tryd.underlying9 Tryd.underlying28 under26 cells30 cells9 cells28 cells26 hh) h1
  simp at e0 e1
  subst e0 e1
  exact ⟨A0, n0, c0, A1, n1, c1, rs, us, rfl, a1, a2, a3, b1, b2, b3, b4⟩
/-- an argument reads as it did -/
theorem keep {W' : World} {t : TypeId} (hr : Tryd.prog.readableRec t = true) (hrow : t < Tryd.prog.types.size) (h : DataW.Trod enc Tryd.prog W 0 (fun _ => true) true t v d p) (hb : Below W.heap.size W W') (hlt : ∀ x ∈ p, x.block < W.heap.size) (hsp : ∀ x ∈ p, sp x.block = true) :
    DataW.Trod enc Tryd.prog W' 0 sp true t v d p :=
  WideElems.Trod_stays laidOut hr hrow h (fun x hx => hb.same (hlt x hx)) hsp
end

/-- The last step, where only 'Below' is known of the world behind the call: after the guide's lemma of that name. -/
theorem post_below {H : Type} {enc : TypeId × Value → H} {P : Program} {f : Func} {s : ChangeSpec} {apart fresh handsOn again : Bool} {W W' : World} {args : Array Value} {v : Value} {ds gs : List (DataW H)} {before pa pv : List MemPlace}
    (hW : DataW.Whole enc P f.params.toList s.vars apart W args.toList ds gs before)
    (hres : ∀ (b : Nat) (sp : Nat → Bool) (hd : Bool), DataW.TrodAll enc P W' b sp hd f.resultTypes.toList (v.resultList f.resultTypes.size) (s.fn H (ds ++ gs)).results [])
    (hargs : ∀ sp : Nat → Bool, (∀ p ∈ before, sp p.block = true) → DataW.TrodAll enc P W' 0 sp true f.params.toList args.toList (s.fn H (ds ++ gs)).args pa)
    (hvars : ∀ sp : Nat → Bool, (∀ p ∈ before, sp p.block = true) → DataW.TrodVars enc P W' sp s.vars (s.fn H (ds ++ gs)).vars pv)
    (hps : before = pa ++ pv) (hb : Below W.heap.size W W')
    (hok : ∀ (j : Nat) (t : TypeId) (r : Value), f.resultTypes[j]? = some t → (v.resultList f.resultTypes.size)[j]? = some r → Value.okWide P W' .any 0 t r) :
    s.post enc P f apart fresh handsOn again W args v W' := by
  have hlt : ∀ p ∈ before, p.block < W.heap.size := fun p hp => hW.lt p hp
  have hold : ∀ p ∈ before, (fun b => decide (b < W.heap.size)) p.block = true := fun p hp => by simpa using hlt p hp
  refine ⟨ds, gs, before, [], pa, pv, hW, hres _ _ _, hargs _ hold, hvars _ hold, World.keptBut_mono (fun p hp => ⟨hp, ?_⟩) (hb.frame (· ∈ before)), fun _ => ?_⟩
  · rw [hps, List.mem_append] at hp
    exact Or.inr hp
  · obtain ⟨_, _, _, _, _, hz, hn⟩ := hW
    refine ⟨hok, _, _, ([] ++ pa) ++ pv, ⟨[] ++ pa, pv, trodAll_append (hargs _ (fun _ _ => rfl)) (hres _ _ _), hvars _ (fun _ _ => rfl), rfl, ?_, ?_⟩, ?_⟩
    · intro b off hp
      have hin : MemPlace.cell b off ∈ before := by rw [hps]; simpa using hp
      rw [hb.frozen (hlt _ hin)]
      exact hz b off hin
    · intro ha
      have := hn ha
      rw [hps] at this
      simpa using this
    · intro p hp _
      rw [hps]
      simpa using hp

/-- The witness's world: the settled one, the two listed variables holding what their initialisers lay. -/
noncomputable def laidWorld (os : Os) : World :=
  let w0 := World.holding Tryd.prog os ⟨#[], #[], []⟩
  let put (h : Array Obj) (g : Nat) (cs : Array Value) : Array Obj := h.modify g fun
    | .cells _ t frozen => .cells cs t frozen
    | o => o
  let h1 := put w0.heap 0 (Go.Pinned.utf8FirstZ.map fun (z : Nat) => Value.int .u8 (z : Int)).toArray
  let h2 := put h1 1 (([128, 191, 160, 191, 128, 159, 144, 191, 128, 143].map fun (z : Int) => Value.int .u8 z) ++ List.replicate 22 (Value.int .u8 0)).toArray
  { w0 with heap := h2 }
set_option maxRecDepth 100000 in
theorem laid_met (os : Os) (args : Array Value) : laidMet Tryd.prog [("unicode/utf8.acceptRanges", Rows.laid_unicode_utf8_acceptRanges), ("unicode/utf8.first", Rows.laid_unicode_utf8_first)] ((laidWorld os).forCall (fun _ _ => 0) ⟨#[], args, []⟩).memory :=
  (LaidIn.of_run (l := [("unicode/utf8.acceptRanges", Rows.laid_unicode_utf8_acceptRanges), ("unicode/utf8.first", Rows.laid_unicode_utf8_first)]) [1, 0] 8 (by kernel_rfl) (by kernel_rfl) (by kernel_rfl) (by kernel_rfl)).met
end Go.Proofs.YtikmiabncbhioaaDoor
