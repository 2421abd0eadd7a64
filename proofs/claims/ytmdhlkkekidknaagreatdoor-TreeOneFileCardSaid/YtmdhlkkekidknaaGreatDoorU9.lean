/-
  Lemmas: tree.Load. slices.IndexFunc over a tree's entries, with tree.Get's closure. strings.Split at "/". tree.Get. slices.Insert and slices.Delete of one file. slices.Delete of one file. tree.find: slices.BinarySearchFunc over files. pool.Put.
-/
import Derived.Lib.Overlaps
import Derived.Laws.IdiomCopy
import Derived.Deep.RegionLaw
import Derived.Lib.SliceRun
import Derived.Test.YtmdhlkkekidknaaGreatDoorU8

namespace Go.Proofs.YtmdhlkkekidknaaGreatDoor
open Go.RowKit Go.Shelf
attribute [local go_sem] Oper.semAt_some

theorem vok_split : ∀ (l1 l2 : List Fl) (a b : List Vd), (∀ x r, a = x :: r → x.2 ≠ 0) → (∀ x r, b = x :: r → x.2 ≠ 0) → l1.map vok ++ a = l2.map vok ++ b → l1 = l2 ∧ a = b
  | [], [], a, b, _, _, h => ⟨rfl, h⟩
  | [], f :: l2, a, b, ha, _, h => absurd rfl (ha (vok f) (l2.map vok ++ b) (by simpa using h))
  | f :: l1, [], a, b, _, hb, h => absurd rfl (hb (vok f) (l1.map vok ++ a) (by simpa using h.symm))
  | f :: l1, g :: l2, a, b, ha, hb, h => by
    simp only [List.map_cons, List.cons_append, List.cons.injEq] at h
    obtain ⟨h1, h2⟩ := vok_split l1 l2 a b ha hb h.2
    have h3 : f = g := congrArg Prod.fst h.1
    exact ⟨by rw [h3, h1], h2⟩
theorem vok_len : ∀ (l1 l2 : List Fl) (a b : List Vd), (∀ x r, b = x :: r → x.2 ≠ 0) → l1.map vok ++ a = l2.map vok ++ b → l1.length ≤ l2.length
  | [], _, _, _, _, _ => Nat.zero_le _
  | f :: l1, [], a, b, hb, h => absurd rfl (hb (vok f) (l1.map vok ++ a) (by simpa using h.symm))
  | f :: l1, g :: l2, a, b, hb, h => by
    simp only [List.map_cons, List.cons_append, List.cons.injEq] at h
    have := vok_len l1 l2 a b hb h.2
    simp only [List.length_cons]; omega
theorem vsT_head (z : Int) : ∀ x r, vsT z = x :: r → x.2 ≠ 0 := by
  intro x r h
  unfold vsT at h
  split at h
  · cases h
  · rename_i hz
    cases h; exact hz
theorem pf_err {fs : List Fl} {x : Vd} {t : List Vd} {r : List Fl × Int} (h : fs.map vok ++ [x] ++ t = vsL r) (hx : x.2 ≠ 0) : r.1 = fs ∧ r.2 = x.2 ∧ r.2 ≠ 0 := by
  unfold vsL at h
  rw [List.append_assoc] at h
  obtain ⟨h1, h2⟩ := vok_split fs r.1 ([x] ++ t) (vsT r.2) (fun y q e => by simp at e; rw [← e.1]; exact hx) (vsT_head _) h
  unfold vsT at h2
  split at h2
  · cases h2
  · rename_i hz
    simp at h2
    refine ⟨h1.symm, ?_, hz⟩
    rw [h2.1]
theorem pf_len {fs : List Fl} {x : Vd} {t : List Vd} {r : List Fl × Int} (h : fs.map vok ++ [x] ++ t = vsL r) (hx : x.2 = 0) : fs.length + 1 ≤ r.1.length := by
  unfold vsL at h
  have hv : x = vok x.1 := Prod.ext rfl hx
  have h2 : (fs ++ [x.1]).map vok ++ t = r.1.map vok ++ vsT r.2 := by rw [← h, List.map_append, List.map_cons, List.map_nil, ← hv]
  have := vok_len _ _ _ _ (vsT_head _) h2
  simpa using this
theorem pf_done {fs : List Fl} {r : List Fl × Int} (h : fs.map vok = vsL r) : r.2 = 0 ∧ fs = r.1 := by
  unfold vsL at h
  obtain ⟨h1, h2⟩ := vok_split fs r.1 [] (vsT r.2) (fun y q e => by cases e) (vsT_head _) (by simpa using h)
  unfold vsT at h2
  split at h2
  · rename_i hz; exact ⟨hz, h1⟩
  · cases h2
theorem res_cc {fn : Func} {c1 c2 : Tmp} (h : fn.results = #[.cell c1 24, .cell c2 31]) {w : World} {a : Array Value} {b1 b2 : Nat} {A : Option Addr} {n c : Nat} {z : Int} (h1 : a[c1]?.getD undef = .pointer (some ⟨b1, 0, none⟩)) (h2 : a[c2]?.getD undef = .pointer (some ⟨b2, 0, none⟩)) (k1 : Bk w b1 24 #[.slice A n c]) (k2 : Bk w b2 31 #[.int .i64 z]) :
    (results fn a).run Tryz.prog w = .ok (.tuple #[.slice A n c, .int .i64 z]) w := by
  have c1' := k1.cell 0; have c2' := k2.cell 0
  simp at c1' c2'
  simp [results, h, h1, h2, go_sem, c1', c2']
def LdEE (p : List Itm) (d : Dig) (w : World) (e : Ending) (w' : World) : Prop :=
  ((∃ fs A c, LdSeq p d fs ∧ e = .returned (.tuple #[.slice A fs.length c, .int .i64 0]) ∧ w'.ownsRow w.heap.size 68 2 (.slice A fs.length c) fs.length (flat flC fs)) ∨ (∃ err, LodE p d err ∧ err ≠ 0 ∧ e = .returned (.tuple #[.slice none 0 0, .int .i64 err]))) ∧ Below w.heap.size w w'
structure LdI (s0 hz : Nat) (w : World) (pre : List Vd) (fs : List Fl) (Aq : Option Addr) (cq : Nat) (W : World) : Prop where
  pre : pre = fs.map vok
  few : fs.length ≤ 200
  r1 : Bk W (s0 + 1) 24 #[.slice none 0 0]
  r2 : Bk W (s0 + 1 + 1) 31 #[.int .i64 0]
  l : Bk W (s0 + 1 + 1 + 1) 24 #[.slice Aq fs.length cq]
  own : W.ownsRow hz 68 2 (.slice Aq fs.length cq) fs.length (flat flC fs)
  b : Below s0 w W
structure LdX (s0 : Nat) (w : World) (p : List Itm) (d : Dig) (err : Int) (W : World) : Prop where
  r1 : Bk W (s0 + 1) 24 #[.slice none 0 0]
  r2 : Bk W (s0 + 1 + 1) 31 #[.int .i64 err]
  lod : LodE p d err
  nz : err ≠ 0
  b : Below s0 w W
section
variable {s0 hz : Nat} {w W W' : World} {pre : List Vd} {fs : List Fl} {Aq : Option Addr} {cq : Nat} {p : List Itm} {d : Dig} {err : Int}
theorem LdI.below (h : LdI s0 hz w pre fs Aq cq W) (hb : Below W.heap.size W W') : LdI s0 hz w pre fs Aq cq W' :=
  ⟨h.pre, h.few, h.r1.below hb h.r1.lt, h.r2.below hb h.r2.lt, h.l.below hb h.l.lt, ownsRow_upon h.own hb, h.b.trans (hb.mono (by have := h.r2.lt; omega))⟩
theorem LdI.grown {row : Option Nat} (h : LdI s0 hz w pre fs Aq cq W) (hg : W.grownBy W' row) (h1 : some (s0 + 1) ≠ row) (h2 : some (s0 + 1 + 1) ≠ row) (h3 : some (s0 + 1 + 1 + 1) ≠ row) (h4 : (Value.slice Aq fs.length cq).ownBlock = none ∨ (Value.slice Aq fs.length cq).ownBlock ≠ row) (h5 : ∀ k, row = some k → s0 ≤ k) : LdI s0 hz w pre fs Aq cq W' :=
  ⟨h.pre, h.few, h.r1.grown hg h1, h.r2.grown hg h2, h.l.grown hg h3, h.own.kept hg h4, h.b.grown hg (by have := h.r2.lt; omega) h5⟩
theorem LdX.grown {row : Option Nat} (h : LdX s0 w p d err W) (hg : W.grownBy W' row) (h1 : some (s0 + 1) ≠ row) (h2 : some (s0 + 1 + 1) ≠ row) (h5 : ∀ k, row = some k → s0 ≤ k) : LdX s0 w p d err W' :=
  ⟨h.r1.grown hg h1, h.r2.grown hg h2, h.lod, h.nz, h.b.grown hg (by have := h.r2.lt; omega) h5⟩
end
theorem infoFil2 : (Tryz.prog.info? 68).map (fun i => (i.zero, i.size, i.bytes)) = some (some (.agg #[.string ⟨#[]⟩, .string ⟨#[]⟩]), 2, 32) := by kernel_rfl
theorem Bk.one_set {w : World} {b : Nat} {t : TypeId} {x : Value} (h : Bk w b t #[x]) (y : Value) : Bk (w.setCell ⟨b, 0, none⟩ y) b t #[y] := by
  have := h.set 0 y
  simpa using this
theorem LdX.drew {s0 : Nat} {w W : World} {p : List Itm} {d : Dig} {err : Int} (h : LdX s0 w p d err W) : LdX s0 w p d err W.drew := ⟨h.r1, h.r2, h.lod, h.nz, h.b.drew⟩
theorem ldx_ret {s0 : Nat} {w W : World} {p : List Itm} {d : Dig} {err : Int} (r1 : Bk W (s0 + 1) 24 #[.slice none 0 0]) (r2 : Bk W (s0 + 1 + 1) 31 #[.int .i64 0]) (b : Below s0 w W) (he : LodE p d err) (h0 : err ≠ 0) :
    LdX s0 w p d err ((W.setCell ⟨s0 + 1, 0, none⟩ (.slice none 0 0)).setCell ⟨s0 + 1 + 1, 0, none⟩ (.int .i64 err)) ∧ LdX s0 w p d err ((W.setCell ⟨s0 + 1 + 1, 0, none⟩ (.int .i64 err)).setCell ⟨s0 + 1, 0, none⟩ (.slice none 0 0)) :=
  ⟨⟨(r1.one_set _).far (p := ⟨s0 + 1 + 1, 0, none⟩) (by show s0 + 1 ≠ s0 + 1 + 1; omega) _, (r2.far (p := ⟨s0 + 1, 0, none⟩) (by show s0 + 1 + 1 ≠ s0 + 1; omega) _).one_set _, he, h0, (b.setCell (p := ⟨s0 + 1, 0, none⟩) (by show s0 ≤ s0 + 1; omega) _).setCell (p := ⟨s0 + 1 + 1, 0, none⟩) (by show s0 ≤ s0 + 1 + 1; omega) _⟩,
   ⟨(r1.far (p := ⟨s0 + 1 + 1, 0, none⟩) (by show s0 + 1 ≠ s0 + 1 + 1; omega) _).one_set _, (r2.one_set _).far (p := ⟨s0 + 1, 0, none⟩) (by show s0 + 1 + 1 ≠ s0 + 1; omega) _, he, h0, (b.setCell (p := ⟨s0 + 1 + 1, 0, none⟩) (by show s0 ≤ s0 + 1 + 1; omega) _).setCell (p := ⟨s0 + 1, 0, none⟩) (by show s0 ≤ s0 + 1; omega) _⟩⟩
theorem rec2_two {D : Nat} (W : World) {a b : Addr} (u v : Value) (ha : a.block < D) (hb : b.block < D) : Rec2 D W ((W.setCell a u).setCell b v) :=
  ⟨(Below.heap_setCell _ _ _ _ (by omega)).trans (Below.heap_setCell _ _ _ _ (by omega)), (Below.heap_setCell _ _ _ _ (by omega)).trans (Below.heap_setCell _ _ _ _ (by omega))⟩
structure LdS (s0 hz : Nat) (w W : World) (fs : List Fl) (f : Fl) (A4 : Option Addr) (c4 : Nat) (W5 : World) : Prop where
  r1 : Bk W5 (s0 + 1) 24 #[.slice none 0 0]
  r2 : Bk W5 (s0 + 1 + 1) 31 #[.int .i64 0]
  l : Bk W5 (s0 + 1 + 1 + 1) 24 #[.slice A4 (fs.length + 1) c4]
  own : W5.ownsRow hz 68 2 (.slice A4 (fs.length + 1) c4) (fs.length + 1) (flat flC (fs ++ [f]))
  b : Below s0 w W5
  kp : KpV s0 hz W W5
  rc : ∀ k, k < hz → k ≠ s0 + 1 + 1 + 1 → k < W.heap.size → W5.heap[k]? = W.heap[k]?
theorem LdI.add {s0 hz : Nat} {w W w4 : World} {pre : List Vd} {fs : List Fl} {Aq : Option Addr} {cq : Nat} (h : LdI s0 hz w pre fs Aq cq W) (hs : s0 + 4 ≤ hz) {f : Fl} {o : Obj} {A4 : Option Addr} {c4 : Nat}
    (ho : w4.ownsRow hz 68 2 (.slice A4 (fs.length + 1) c4) (fs.length + 1) (flat flC fs ++ flC f)) (hg : (W.alloc o).grownBy w4 (Value.slice Aq fs.length cq).ownBlock) :
    LdS s0 hz w W fs f A4 c4 (w4.setCell ⟨s0 + 1 + 1 + 1, 0, none⟩ (.slice A4 (fs.length + 1) c4)) ∧ w4.cell? ⟨s0 + 1 + 1 + 1, 0, none⟩ = some (.slice Aq fs.length cq) ∧ w4.frozen? ⟨s0 + 1 + 1 + 1, 0, none⟩ = false := by
  have hr : ∀ k, (Value.slice Aq fs.length cq).ownBlock = some k → hz ≤ k ∧ ∃ cur, W.heap[k]? = some (.cells cur 68 (0, 0)) := fun k hk => own_row h.own hk
  have hb : ∀ k, k < W.heap.size → (Value.slice Aq fs.length cq).ownBlock ≠ some k → w4.heap[k]? = W.heap[k]? := fun k hk hn => (hg.block k (by simp; omega) (fun e => hn e.symm)).trans (Below.heap_alloc W o k hk)
  have hlow : ∀ k, k < hz → (Value.slice Aq fs.length cq).ownBlock ≠ some k := fun k hk e => by have := (hr k e).1; omega
  have l1 : Bk w4 (s0 + 1) 24 #[.slice none 0 0] := (hb _ h.r1.lt (hlow _ (by omega))).trans h.r1
  have l2 : Bk w4 (s0 + 1 + 1) 31 #[.int .i64 0] := (hb _ h.r2.lt (hlow _ (by omega))).trans h.r2
  have l3 : Bk w4 (s0 + 1 + 1 + 1) 24 #[.slice Aq fs.length cq] := (hb _ h.l.lt (hlow _ (by omega))).trans h.l
  have hB4 : Below s0 w w4 := (h.b.alloc (by have := h.l.lt; omega) o).grown hg (by have := h.l.lt; simp; omega) (fun k hk => by have := (hr k hk).1; omega)
  refine ⟨⟨l1.far (p := ⟨s0 + 1 + 1 + 1, 0, none⟩) (by show s0 + 1 ≠ s0 + 1 + 1 + 1; omega) _, l2.far (p := ⟨s0 + 1 + 1 + 1, 0, none⟩) (by show s0 + 1 + 1 ≠ s0 + 1 + 1 + 1; omega) _, l3.one_set _, ?_, hB4.setCell (p := ⟨s0 + 1 + 1 + 1, 0, none⟩) (by show s0 ≤ s0 + 1 + 1 + 1; omega) _, ?_, fun k hk hne hkW => (Below.heap_setCell _ _ _ _ hne).trans (hb k hkW (hlow k hk))⟩, by have := l3.cell 0; simpa using this, l3.free 0⟩
  · have e : flat flC (fs ++ [f]) = flat flC fs ++ flC f := by rw [flat_append]; simp [flat]
    rw [e]
    exact ownsRow_setCell_below ho (by show s0 + 1 + 1 + 1 < hz; omega) _
  · refine ⟨by have := hg.size; simp at this ⊢; omega, fun k hk hc => ?_⟩
    have hne : k ≠ s0 + 1 + 1 + 1 := by omega
    refine (Below.heap_setCell _ _ _ _ hne).trans (hb k hk (fun e => ?_))
    obtain ⟨h1, cur, h2⟩ := hr k e
    rcases hc with h3 | ⟨_, h3⟩
    · omega
    · rw [h2] at h3; exact h3 rfl
set_option maxRecDepth 100000 in
set_option maxHeartbeats 8000000 in
theorem tload_any (A : Option Addr) (np cp B : Nat) (p : List Itm) (d : Dig) (w : World) (h0 : Sl w B 3 A np (flat itC p)) (hB : B ≤ w.heap.size) (hn : np ≤ 1000000) (hp : PlOk p) :
    Calls Tryz.prog 23 #[.slice A np cp, digV d] w (LdEE p d w) := by
  refine (callsIn_wide (n := 6)).1 ?_
  have hf1 : Fence.wide.fn 107 := trivial
  have HP := Lib.hid hp; have H0 := Lib.hid h0
  obtain ⟨W1, hW1⟩ : ∃ W1, (((w.alloc (.cells #[.int .u64 d.1, .int .u64 d.2] 30)).alloc (.cells #[.slice none 0 0] 24)).alloc (.cells #[.int .i64 0] 31)).alloc (.cells #[.slice none 0 0] 24) = W1 := ⟨_, rfl⟩
  have z1 : W1.heap.size = w.heap.size + 4 := by rw [← hW1]; simp
  have hb1 : Below w.heap.size w W1 := by rw [← hW1]; exact ((((Below.refl _ w).alloc (Nat.le_refl _) _).alloc (by simp) _).alloc (by simp; omega) _).alloc (by simp; omega) _
  have k1 : Bk W1 (w.heap.size + 1) 24 #[.slice none 0 0] := by
    rw [← hW1]
    have := Bk.new (w.alloc (.cells #[.int .u64 d.1, .int .u64 d.2] 30)) 24 #[.slice none 0 0]
    rw [World.size_alloc] at this; exact (this.alloc _).alloc _
  have k2 : Bk W1 (w.heap.size + 2) 31 #[.int .i64 0] := by
    rw [← hW1]
    have := Bk.new ((w.alloc (.cells #[.int .u64 d.1, .int .u64 d.2] 30)).alloc (.cells #[.slice none 0 0] 24)) 31 #[.int .i64 0]
    rw [World.size_alloc, World.size_alloc] at this; exact this.alloc _
  have k3 : Bk W1 (w.heap.size + 3) 24 #[.slice none 0 0] := by
    rw [← hW1]
    have := Bk.new (((w.alloc (.cells #[.int .u64 d.1, .int .u64 d.2] 30)).alloc (.cells #[.slice none 0 0] 24)).alloc (.cells #[.int .i64 0] 31)) 24 #[.slice none 0 0]
    rw [World.size_alloc, World.size_alloc, World.size_alloc] at this; exact this
  have HA := Lib.hid (tall_any A np cp d W1)
  obtain ⟨d1, d2⟩ := d
  have HW1 := Lib.hid hW1
  simp only [digV] at HA HW1 ⊢
  clear hW1 h0 hp
  refine callsIn_of_wp_marks Tryz.func23 rfl trivial ?_ rfl
  simp only [Tryz.ntmps23, List.size_toArray, List.length_cons, List.length_nil, Nat.reduceAdd, Nat.reduceSub, Array.replicate_succ, Array.replicate_zero, List.push_toArray, List.append_toArray, List.nil_append, List.cons_append]
  gi_wp2_with fail
  rw [HW1.out]
  gi_wp2_with fail
  refine ⟨trivial, (callsIn_wide.2 HA.out).mono ?_⟩
  rintro e W2 ⟨rfl, hw2⟩
  have z2 : W2.heap.size = w.heap.size + 6 := by rw [hw2]; simp; omega
  have hb2 : Below W1.heap.size W1 W2 := by rw [hw2]; exact ((Below.refl _ W1).alloc (Nat.le_refl _) _).alloc (by simp) _
  have kp : Bk W2 (w.heap.size + 4) 23 #[.slice A np cp] := by rw [hw2, ← z1]; exact (Bk.new W1 _ _).alloc _
  have kd : Bk W2 (w.heap.size + 4 + 1) 30 #[.int .u64 d1, .int .u64 d2] := by
    rw [hw2]
    have := Bk.new (W1.alloc (.cells #[.slice A np cp] 23)) 30 #[.int .u64 d1, .int .u64 d2]
    rw [World.size_alloc, z1] at this; exact this
  have hI0 : LdI w.heap.size (W2.heap.size + 2) w [] [] none 0 W2 := ⟨rfl, Nat.zero_le _, k1.below hb2 (by omega), k2.below hb2 (by omega), k3.below hb2 (by omega), World.ownsRow_nil _ _ _ _, hb1.trans (hb2.mono (by omega))⟩
  have hs2 := H0.out.below (hb1.trans (hb2.mono (by omega))) hB
  have hst := tall1_st 5 w.heap.size (W2.heap.size + 2) B np cp (w.heap.size + 4) (w.heap.size + 4 + 1) A p (d1, d2) W2 HP.out hs2 hB (by omega) (by omega) hn kp kd
  rw [z1]
  clear HA k1 k2 k3 hb1 hb2 kp kd hs2 HW1 hw2
  gi_wp2
  refine wpIn_rangeTA (α := Vd) (F := Fence.wide) (n := 6) rfl (by omega) (gf := 107) (lb := #[.pointer (some ⟨w.heap.size + 4, 0, none⟩), .pointer (some ⟨w.heap.size + 4 + 1, 0, none⟩)]) rfl trivial (enters_of Tryz.func107 (by kernel_rfl) rfl)
    hst KpV.trans (fun W l r o' hl hlr => ⟨by simp, fun k _ hk => World.putObj_heap_other (by omega)⟩) (fun A C h hA => ⟨h.block _ (by omega), h.block _ (by omega)⟩) (Below.refl _ _) (fun _ => rfl)
    (fun pre W => ∃ fs Aq cq, LdI w.heap.size (W2.heap.size + 2) w pre fs Aq cq W)
    (fun c _ W => c = .ret ∧ ∃ err, LdX w.heap.size w p (d1, d2) err W)
    ?hI ?hIx ?hIS ⟨[], none, 0, hI0⟩
    (fun x b W => W2.heap.size + 2 ≤ b ∧ Bk W b 88 #[.string x.1.1, .string x.1.2, .int .i64 x.2])
    ?hAp (fun x b => { tmps := #[.slice A np cp, .agg #[.int .u64 d1, .int .u64 d2], undef, .pointer (some ⟨w.heap.size, 0, none⟩), .pointer (some ⟨w.heap.size + 1, 0, none⟩), .pointer (some ⟨w.heap.size + 1 + 1, 0, none⟩), .pointer (some ⟨w.heap.size + 1 + 1 + 1, 0, none⟩), .pointer (some ⟨b, 0, none⟩), .slice A np cp, .agg #[.int .u64 d1, .int .u64 d2], .func (.func 107) #[] #[.pointer (some ⟨w.heap.size + 4, 0, none⟩), .pointer (some ⟨w.heap.size + 4 + 1, 0, none⟩)], .agg #[.string x.1.1, .string x.1.2, .int .i64 x.2], undef, undef, undef, undef, undef, undef, undef, undef, undef, undef, undef, undef, undef, undef, undef, undef], defers := [] }) ?assign ?body ?done ?stop
  case hAp =>
    rintro x b W l r o hl ⟨hb, hw⟩
    refine ⟨hb, (World.putObj_heap_other (fun e => ?_)).trans hw⟩
    subst e
    have : W.heap[b]? = _ := hw
    rw [hl] at this; cases this
  case hI =>
    rintro pre A C row ⟨fs, Aq, cq, h⟩ hg hr
    refine ⟨fs, Aq, cq, h.grown hg (fun e => ?_) (fun e => ?_) (fun e => ?_) ?_ (fun k e => ?_)⟩
    · have := (hr _ e.symm).1; omega
    · have := (hr _ e.symm).1; omega
    · have := (hr _ e.symm).1; omega
    · cases hv : (Value.slice Aq fs.length cq).ownBlock with
      | none => exact .inl rfl
      | some k =>
        refine .inr fun e => ?_
        obtain ⟨_, cur, hcur⟩ := own_row h.own hv
        obtain ⟨_, o, ho, hc⟩ := hr _ e.symm
        rw [hcur] at ho; cases ho; cases hc
    · have := (hr _ e).1; omega
  case hIx =>
    rintro c pre A C row ⟨hc, err, h⟩ hg hr
    refine ⟨hc, err, h.grown hg (fun e => ?_) (fun e => ?_) (fun k e => ?_)⟩
    · have := (hr _ e.symm).1; omega
    · have := (hr _ e.symm).1; omega
    · have := (hr _ e).1; omega
  case hIS =>
    rintro pre A C ⟨fs, Aq, cq, h⟩ hb
    exact ⟨fs, Aq, cq, h.below hb⟩
  case assign =>
    intro l pre x W K hWz hI hK
    obtain ⟨fs, Aq, cq, h⟩ := hI
    have HKK := Lib.hid hK
    have HI := Lib.hid h
    clear hK h hst hI0
    obtain ⟨⟨x1, x2⟩, x3⟩ := x
    simp only [vdA]
    gi_wp2
    have hb : Below W.heap.size W (W.alloc (.cells #[.string x1, .string x2, .int .i64 x3] 88)) := (Below.refl _ W).alloc (Nat.le_refl _) _
    exact HKK.out W.heap.size _ ⟨hb.block _ (by omega), hb.block _ (by omega)⟩ (KpV.of_below hb) ⟨fs, Aq, cq, HI.out.below hb⟩ ⟨hWz, Bk.new W _ _⟩
  case body =>
    rintro l pre x b W ⟨t, ht⟩ hWz ⟨fs, Aq, cq, h⟩ ⟨hbz, hk⟩
    obtain ⟨⟨x1, x2⟩, x3⟩ := x
    simp only at hk
    have HT : Hid (fs.map vok ++ [((x1, x2), x3)] ++ t = vsL (visW p (d1, d2))) := by show _ = _; rw [← h.pre]; exact ht
    have HI := Lib.hid h; have HK := Lib.hid hk
    obtain ⟨x0', x1', x2'⟩ := hk.three
    clear h hk ht hst hI0
    have c1 := HI.out.r1.cell 0; have c2 := HI.out.r2.cell 0; have c3 := HI.out.l.cell 0
    have f1 := HI.out.r1.free 0; have f2 := HI.out.r2.free 0; have f3 := HI.out.l.free 0
    simp at c1 c2 c3
    by_cases h3 : x3 = 0
    · have t1 : (x3 != 0) = false := by rw [h3]; rfl
      have HL := Lib.hid (pf_len HT.out h3)
      have hfew := HI.out.few
      have H3 := Lib.hid h3
      obtain ⟨i0, hi, hz0, hz1, hz2⟩ := info_parts infoFil2
      have Hi := Lib.hid hi; have Hz0 := Lib.hid hz0; have Hz1 := Lib.hid hz1; have Hz2 := Lib.hid hz2
      clear hi hz0 hz1 hz2 h3
      gi_wp2_with (gi_at_builtin; refine halt_ ?_)
      refine unhalt ?_
      refine wpListIn_append_sl (base := W2.heap.size + 2) (size := 2) rfl (.tmp 17) (.tmp 20) 24 rfl 68 i0 _ 32 Tryz.underlying24 Hi.out Hz0.out Hz1.out Hz2.out rfl (by decide) (.slice Aq fs.length cq) fs.length (flat flC fs) rfl ?own (W.heap.size + 1) _ 1 _ (flC (x1, x2)) rfl ?nw (by simp [flC, Value.oneCell']) ?l1 ?l2 ?l3 ?_
      case own => exact ownsRow_upon HI.out.own ((Below.refl _ W).alloc (Nat.le_refl _) _)
      case nw =>
        have := Sl.of_bk (n := 1) (size := 2) (Bk.new W 68 #[.string x1, .string x2]) rfl
        rw [World.size_alloc] at this; exact this
      case l1 => unfold maxLen; omega
      case l2 => omega
      case l3 => simp; omega
      intro A4 c4 w4 ho4 hg4 hc41 hc42
      obtain ⟨hls, c4', f4'⟩ := HI.out.add (f := (x1, x2)) (by omega) ho4 hg4
      have HLS := Lib.hid hls
      have HPR := Lib.hid HI.out.pre
      clear ho4 hg4 c1 c2 c3 f1 f2 f3 x0' x1' x2' hls
      by_cases hbig : fs.length = 200
      · have hbz : (200 : Int) < ((fs.length : Int) + 1) := by omega
        have HE : Hid (LodE p (d1, d2) 4) := .inl ⟨by have := HL.out; omega, rfl⟩
        have c1 := HLS.out.r1.cell 0; have c2 := HLS.out.r2.cell 0
        have f1 := HLS.out.r1.free 0; have f2 := HLS.out.r2.free 0
        simp only [List.getElem?_toArray, List.getElem?_cons_zero] at c1 c2
        clear hbig
        gi_wp2
        have hr := HLS.out.rc
        have hrz := HI.out.l.lt
        refine ⟨⟨((rec2_two (D := W2.heap.size) _ _ _ (by show w.heap.size + 1 < _; omega) (by show w.heap.size + 1 + 1 < _; omega)).1).trans (hr _ (by omega) (by omega) (by omega)), ((rec2_two (D := W2.heap.size) _ _ _ (by show w.heap.size + 1 < _; omega) (by show w.heap.size + 1 + 1 < _; omega)).2).trans (hr _ (by omega) (by omega) (by omega))⟩, rfl, 4, (ldx_ret HLS.out.r1 HLS.out.r2 HLS.out.b HE.out (by decide)).1⟩
      · have hbz : ¬ (200 : Int) < ((fs.length : Int) + 1) := by omega
        have hlen : fs.length + 1 ≤ 200 := by omega
        clear hbig
        gi_wp2
        have hr := HLS.out.rc
        refine ⟨⟨hr _ (by omega) (by omega) (by omega), hr _ (by omega) (by omega) (by omega)⟩, (by have := HLS.out.kp; rw [z2] at this; exact this), fs ++ [(x1, x2)], A4, c4, ?_, ?_, HLS.out.r1, HLS.out.r2, ?_, ?_, HLS.out.b⟩
        · rw [HPR.out, List.map_append, H3.out]; rfl
        · simpa using hlen
        · rw [List.length_append]; exact HLS.out.l
        · rw [List.length_append]; have := HLS.out.own; rw [z2] at this; exact this
    · have t1 : (x3 != 0) = true := by rw [bne_iff_ne]; exact h3
      obtain ⟨e1, e2, e3⟩ := pf_err HT.out h3
      have HE : Hid (LodE p (d1, d2) x3) := .inr ⟨by rw [e1]; exact HI.out.few, e3, by rw [e2]⟩
      have H3 := Lib.hid h3
      clear e1 e2 e3 h3 c3 f3
      gi_wp2
      gi_region
      all_goals
        gi_wp2
        first
          | exact ⟨rec2_two W _ _ (by show w.heap.size + 1 < _; omega) (by show w.heap.size + 1 + 1 < _; omega), rfl, x3, (ldx_ret HI.out.r1 HI.out.r2 HI.out.b HE.out H3.out).1.drew⟩
          | exact ⟨rec2_two W _ _ (by show w.heap.size + 1 + 1 < _; omega) (by show w.heap.size + 1 < _; omega), rfl, x3, (ldx_ret HI.out.r1 HI.out.r2 HI.out.b HE.out H3.out).2.drew⟩
  case done =>
    rintro D xs W hD hS ⟨fs, Aq, cq, h⟩ hK
    obtain ⟨hf1, hf2⟩ := pf_done (fs := fs) (by rw [← h.pre]; exact hS)
    have hfew := h.few
    have HSO := Lib.hid (sortFil_any (W2.heap.size + 2) fs.length cq Aq fs W h.own (by omega))
    have HSQ : Hid (∀ us : List Fl, us.Perm fs → SrtF us → LdSeq p (d1, d2) us) := fun us hp hs => by
      have hpm : us.Perm (visW p (d1, d2)).1 := by rw [← hf2]; exact hp
      have hnd : (us.map Prod.fst).Nodup := ((hpm.map Prod.fst).nodup_iff).2 (vis_nodup HP.out 102 (d1, d2) ⟨#[]⟩)
      refine ⟨by rw [← hf2]; exact hfew, hf1, hpm, ?_⟩
      unfold List.Nodup at hnd
      rw [List.pairwise_map] at hnd
      exact (hs.and hnd).imp (fun {a b} h => by
        cases h1 : less a.1 b.1 with
        | true => rfl
        | false => exact absurd (lessB_conn h1 h.1) h.2)
    have HI := Lib.hid h; have HK := Lib.hid hK
    have c3 := h.l.cell 0
    simp at c3
    clear h hK hS hf1 hf2 hst hI0
    gi_wp2_with fail
    refine ⟨trivial, (callsIn_wide.2 HSO.out).mono ?_⟩
    rintro e w' ⟨rfl, us, hp, hso, hown, hg⟩
    have HS := Lib.hid (HSQ.out us hp hso)
    have hul : us.length = fs.length := hp.length_eq
    have hr : ∀ k, (Value.slice Aq fs.length cq).ownBlock = some k → W2.heap.size + 2 ≤ k ∧ ∃ cur, W.heap[k]? = some (.cells cur 68 (0, 0)) := fun k hk => own_row HI.out.own hk
    have HR1 : Hid (Bk w' (w.heap.size + 1) 24 #[.slice none 0 0]) := HI.out.r1.grown hg (fun e => by have := (hr _ e.symm).1; omega)
    have HR2 : Hid (Bk w' (w.heap.size + 1 + 1) 31 #[.int .i64 0]) := HI.out.r2.grown hg (fun e => by have := (hr _ e.symm).1; omega)
    have HL3 : Hid (Bk w' (w.heap.size + 1 + 1 + 1) 24 #[.slice Aq fs.length cq]) := HI.out.l.grown hg (fun e => by have := (hr _ e.symm).1; omega)
    have HBF : Hid (Below w.heap.size w w') := HI.out.b.grown hg (by have := HI.out.r2.lt; omega) (fun k hk => by have := (hr k hk).1; omega)
    have HKD : Hid (w'.heap[D]? = some (.deferred (some []))) := (hg.block D (Array.getElem?_eq_some_iff.1 HK.out).1 (fun e => by
      obtain ⟨_, cur, h2⟩ := hr D e.symm
      rw [HK.out] at h2; cases h2)).trans HK.out
    have HOW := Lib.hid hown
    have c1 := HR1.out.cell 0; have c2 := HR2.out.cell 0; have c3 := HL3.out.cell 0
    have f1 := HR1.out.free 0; have f2 := HR2.out.free 0
    simp at c1 c2 c3
    clear hp hso hown hg hr HSO
    gi_wp2
    have hDz : ∀ k, k < W2.heap.size → k ≠ D := fun k hk => by omega
    refine ⟨by simp, .inl ⟨_, _, rfl, run_takeDeferred ((Below.heap_setCell _ _ _ _ (by simp; omega)).trans ((Below.heap_setCell _ _ _ _ (by simp; omega)).trans HKD.out)), ?_⟩⟩
    have k1 : Bk ((w'.setCell ⟨w.heap.size + 1, 0, none⟩ (.slice Aq fs.length cq)).setCell ⟨w.heap.size + 1 + 1, 0, none⟩ (.int .i64 0)) (w.heap.size + 1) 24 #[.slice Aq fs.length cq] := (HR1.out.one_set _).far (p := ⟨w.heap.size + 1 + 1, 0, none⟩) (by show w.heap.size + 1 ≠ w.heap.size + 1 + 1; omega) _
    have k2 : Bk ((w'.setCell ⟨w.heap.size + 1, 0, none⟩ (.slice Aq fs.length cq)).setCell ⟨w.heap.size + 1 + 1, 0, none⟩ (.int .i64 0)) (w.heap.size + 1 + 1) 31 #[.int .i64 0] := (HR2.out.far (p := ⟨w.heap.size + 1, 0, none⟩) (by show w.heap.size + 1 + 1 ≠ w.heap.size + 1; omega) _).one_set _
    refine ⟨_, res_cc rfl rfl rfl ((World.putObj_heap_other (by omega)).trans k1) ((World.putObj_heap_other (by omega)).trans k2), .inl ⟨us, Aq, cq, HS.out, by rw [hul], ?_⟩, ?_⟩
    · rw [hul]
      refine ownsRow_low (own_keep (ownsRow_bk (ownsRow_bk HOW.out HR1.out (by decide) 0 _) (HR2.out.far (p := ⟨w.heap.size + 1, 0, none⟩) (by show w.heap.size + 1 + 1 ≠ w.heap.size + 1; omega) _) (by decide) 0 _) (fun k hk => World.putObj_heap_other (fun e => ?_))) (by omega)
      subst e
      obtain ⟨_, cur, h2⟩ := own_row HOW.out hk
      rw [HKD.out] at h2; cases h2
    · exact ((HBF.out.setCell (p := ⟨w.heap.size + 1, 0, none⟩) (by simp) _).setCell (p := ⟨w.heap.size + 1 + 1, 0, none⟩) (by show w.heap.size ≤ w.heap.size + 1 + 1; omega) _).grown (grownBy_putObj' _ _ _) (by have := HBF.out.size; simpa using this) (fun k e => by cases e; omega)
  case stop =>
    rintro D c pre W hD hS ⟨rfl, err, h⟩ hK
    have HI := Lib.hid h; have HK := Lib.hid hK
    clear h hK hS hst hI0
    gi_wp2
    refine ⟨by simp, .inl ⟨_, _, rfl, run_takeDeferred HK.out, ?_⟩⟩
    refine ⟨_, res_cc rfl rfl rfl ((World.putObj_heap_other (by omega)).trans HI.out.r1) ((World.putObj_heap_other (by omega)).trans HI.out.r2), .inr ⟨err, HI.out.lod, HI.out.nz, rfl⟩, ?_⟩
    exact HI.out.b.grown (grownBy_putObj' _ _ _) HI.out.b.size (fun k e => by cases e; omega)
end Go.Proofs.YtmdhlkkekidknaaGreatDoor

namespace Go.Proofs.YtmdhlkkekidknaaGreatDoor
open Go.RowKit Go.Shelf

theorem first_hit (q : Nat → Bool) : ∀ n : Nat, (∀ j, j < n → q j = false) ∨ ∃ k, k < n ∧ q k = true ∧ ∀ j, j < k → q j = false
  | 0 => .inl fun j hj => absurd hj (Nat.not_lt_zero _)
  | n + 1 => by
    rcases first_hit q n with h | ⟨k, h1, h2, h3⟩
    · cases hq : q n with
      | true => exact .inr ⟨n, Nat.lt_succ_self n, hq, h⟩
      | false =>
        refine .inl fun j hj => ?_
        rcases Nat.lt_succ_iff_lt_or_eq.1 hj with h' | rfl
        · exact h j h'
        · exact hq
    · exact .inr ⟨k, by omega, h2, h3⟩
instance : Inhabited Ent := ⟨⟨⟨#[]⟩, false, (0, 0)⟩⟩
def IxE (es : List Ent) (s : ByteArray) (w : World) (e : Ending) (w' : World) : Prop :=
  ((∃ (j : Nat) (x : Ent), j < es.length ∧ es[j]? = some x ∧ entN es s = some x ∧ e = .returned (.int .i64 (j : Int))) ∨ (entN es s = none ∧ e = .returned (.int .i64 (-1)))) ∧ Below w.heap.size w w'
set_option maxRecDepth 100000 in
set_option maxHeartbeats 1000000 in
theorem get1_any (bx : Nat) (s : ByteArray) (x : Ent) (w : World) (hk : Bk w bx 9 #[.string s]) :
    Calls Tryz.prog 71 #[.agg (enC x).toArray, .pointer (some ⟨bx, 0, none⟩)] w fun e w' => e = .returned (.bool (decide (x.nm = s))) ∧ Below w.heap.size w w' := by
  obtain ⟨nm, dir, d1, d2⟩ := x
  have h0 : w.cell? ⟨bx, 0, none⟩ = some (.string s) := by rw [hk.cell]; rfl
  have h1 := World.cell?_alloc_old w (.cells #[.string nm, .bool dir, .int .u64 d1, .int .u64 d2] 102) ⟨bx, 0, none⟩ (Nat.ne_of_lt hk.lt)
  rw [h0] at h1
  simp only [enC]
  clear hk
  go_enter Tryz.func71, Tryz.ntmps71
  go_wp2_with fail
  go_ret
  refine ⟨?_, (Below.refl _ w).alloc (Nat.le_refl _) _⟩
  rw [← str_dec]; rfl
set_option maxRecDepth 100000 in
set_option maxHeartbeats 1000000 in
theorem ixe_any (A : Option Addr) (n c bx : Nat) (es : List Ent) (s : ByteArray) (w : World) (h0 : Sl w w.heap.size 4 A n (flat enC es)) (hk : Bk w bx 9 #[.string s]) (hn : n ≤ 9223372036854775807) :
    Calls Tryz.prog 70 #[.slice A n c, .func (.func 71) #[] #[.pointer (some ⟨bx, 0, none⟩)]] w (IxE es s w) := by
  have hl := h0.len enC_len (by omega)
  by_cases hz : n = 0
  · subst hz
    have hes : es = [] := List.eq_nil_of_length_eq_zero hl
    subst hes
    clear h0 hk
    go_enter Tryz.func70, Tryz.ntmps70
    go_wp2_with fail
    go_loopg [5, 8] 0 (fun gg _ s8 wr => s8 = .int .i64 0 ∧ wr = w)
    case atStart => exact ⟨rfl, rfl⟩
    case round =>
      obtain ⟨rfl, rfl⟩ := hrel
      go_wp2_with fail
      go_ret
      exact ⟨.inr ⟨rfl, rfl⟩, Below.refl _ _⟩
  · obtain ⟨b, off, rfl, hb, hc⟩ := h0.2 (by omega)
    have hp : PredBelow Tryz.prog 71 #[.pointer (some ⟨bx, 0, none⟩)] (fun x => .agg (enC x).toArray) (fun x => decide (x.nm = s)) w := fun W x hW =>
      (get1_any bx s x W (hk.below hW hk.lt)).mono fun e w' ⟨h1, h2⟩ => ⟨h1, hW.trans (h2.mono hW.size)⟩
    have h := AnyQ.slices_IndexFunc Tryz.idxEnt 4 (Tryz.isAgg102) (Tryz.sizeOf102) enC enC_len (fun x => decide (x.nm = s)) 71 #[.pointer (some ⟨bx, 0, none⟩)] (enters_of Tryz.func71 rfl rfl) b off n c es w hp (by omega) hn hb (fun j hj i v hi => by
      have := hc (j * 4 + i) v ?_
      · rw [show off + j * 4 + i = off + (j * 4 + i) by omega]; exact this
      · rw [getElem!_pos es j hj] at hi
        have hi4 : i < 4 := (List.getElem?_eq_some_iff.1 hi).1
        rw [flat_get enC_len es j i es[j] (List.getElem?_eq_getElem hj) hi4]
        exact hi)
    refine h.mono fun e w' ⟨he, hw⟩ => ⟨?_, hw⟩
    rcases first_hit (fun j => decide ((es[j]!).nm = s)) n with hno | ⟨k, h1, h2, h3⟩
    · rw [Lib.idxBy_miss (fun _ y => decide (y.nm = s)) es n default hno] at he
      refine .inr ⟨entN_no fun i x hi => ?_, he⟩
      obtain ⟨hi1, hi2⟩ := List.getElem?_eq_some_iff.1 hi
      have := hno i (by omega)
      simp only [decide_eq_false_iff_not] at this
      rw [getElem!_pos es i hi1, hi2] at this
      exact this
    · rw [Lib.idxBy_hit (fun _ y => decide (y.nm = s)) es n k default h1 (by omega) h2 h3] at he
      refine .inl ⟨k, es[k]'(by omega), by omega, List.getElem?_eq_getElem _, ?_, he⟩
      refine entN_at (j := k) (fun i x hi hx => ?_) (List.getElem?_eq_getElem (by omega)) ?_
      · obtain ⟨hi1, hi2⟩ := List.getElem?_eq_some_iff.1 hx
        have := h3 i hi
        simp only [decide_eq_false_iff_not] at this
        rw [getElem!_pos es i hi1, hi2] at this
        exact this
      · simp only [decide_eq_true_eq] at h2
        rw [getElem!_pos es k (by omega)] at h2
        exact h2
end Go.Proofs.YtmdhlkkekidknaaGreatDoor

namespace Go.Proofs.YtmdhlkkekidknaaGreatDoor
open Go.RowKit Go.Shelf

theorem index_by (l : List UInt8) (c : UInt8) : Lib.index l [c] = Lib.indexByte l c := by
  induction l with
  | nil => rfl
  | cons b l ih =>
    rw [Lib.index, Lib.indexByte, ih]
    by_cases h : b = c
    · subst h; simp [List.isPrefixOf]
    · have h1 : (c == b) = false := by simpa using fun e => h e.symm
      have h2 : (b == c) = false := by simpa using h
      simp [List.isPrefixOf, h1, h2]
theorem indexByte_slash (l : List UInt8) : Lib.indexByte l 47 = if slashL l < l.length then (slashL l : Int) else -1 := by
  induction l with
  | nil => rfl
  | cons b l ih =>
    rw [Lib.indexByte, ih, slashL]
    by_cases h : b = 47
    · subst h; simp
    · have h2 : (b == 47) = false := by simpa using h
      rw [h2, if_neg h]
      by_cases h3 : slashL l < l.length
      · have h4 : ¬ ((slashL l : Int) = -1) := by omega
        simp [h3, h4]
      · simp [h3]
theorem splitK_slash : ∀ (k : Nat) (l : List UInt8), l.count 47 = k → Lib.splitK [47] 0 k l = splitS l := by
  intro k
  induction k with
  | zero =>
    intro l hl
    rw [splitS_last l (fun c hc e => by subst e; exact absurd hc (List.count_eq_zero.1 hl))]
    rfl
  | succ k ih =>
    intro l hl
    have hlt : slashL l < l.length := by
      rcases Nat.lt_or_ge (slashL l) l.length with h | h
      · exact h
      · have := slashL_pre l
        rw [List.take_of_length_le h] at this
        have h0 : l.count 47 = 0 := List.count_eq_zero.2 (fun hc => this 47 hc rfl)
        omega
    have hd := slashL_dec l hlt
    have hc : (l.drop (slashL l + 1)).count 47 = k := by
      have h1 : l.count 47 = (l.take (slashL l) ++ 47 :: l.drop (slashL l + 1)).count 47 := by rw [← hd]
      rw [List.count_append, List.count_eq_zero.2 (fun hc => slashL_pre l 47 hc rfl), List.count_cons_self] at h1
      omega
    rw [Lib.splitK, index_by, indexByte_slash, if_pos hlt, splitS_slash l, if_pos hlt]
    have h4 : ((slashL l : Int) == -1) = false := by
      have : ¬ ((slashL l : Int) = -1) := by omega
      exact beq_eq_false_iff_ne.2 this
    rw [h4]
    simp only [Bool.false_eq_true, if_false, Int.toNat_natCast, Nat.add_zero, List.length_cons, List.length_nil, Nat.zero_add]
    rw [ih _ hc]
theorem map_bl_inj : ∀ {a b : List ByteArray}, a.map (·.data.toList) = b.map (·.data.toList) → a = b
  | [], [], _ => rfl
  | [], _ :: _, h => by simp at h
  | _ :: _, [], h => by simp at h
  | x :: a, y :: b, h => by
    simp only [List.map_cons, List.cons.injEq] at h
    have e : x = y := by rw [← ub_bl x, ← ub_bl y]; exact congrArg ub h.1
    rw [e, map_bl_inj h.2]
theorem split_pieces (s : ByteArray) : Lib.splitB ⟨#[47]⟩ 0 (Lib.countB s ⟨#[47]⟩) s = (splitS (bl s)).map ub := by
  apply map_bl_inj
  rw [Lib.splitB_data, List.map_map]
  have hc : Lib.countB s ⟨#[47]⟩ = (bl s).count 47 := by
    show Lib.count s.data.toList [47] = _
    rw [Lib.count_one]; rfl
  have e : ((fun x : ByteArray => x.data.toList) ∘ ub) = id := by funext l; exact bl_ub l
  rw [e, List.map_id, hc]
  exact splitK_slash _ _ rfl
set_option maxRecDepth 100000 in
set_option maxHeartbeats 1000000 in
theorem split_any (s : ByteArray) (w : World) (hs : s.size < 4294967281) :
    Calls Tryz.prog 68 #[.string s, .string ⟨#[47]⟩] w fun e w' => ∃ A, e = .returned (.slice A (splitS (bl s)).length (splitS (bl s)).length) ∧ Sl w' w'.heap.size 1 A (splitS (bl s)).length (((splitS (bl s)).map ub).map Value.string) ∧ Below w.heap.size w w' := by
  have hle := Lib.countB_le ⟨#[47]⟩ (by decide) s.size s (Nat.le_refl _)
  have hlen := Lib.splitB_all ⟨#[47]⟩ (by decide) 0 _ s rfl
  have c := Any.strings_genSplit_core Tryz.laysGsp (by kernel_rfl) s ⟨#[47]⟩ 0 (-1) (Lib.countB s ⟨#[47]⟩ + 1) w hs (by decide) (by decide)
    (fun x c hx => (Tryz.strings_Index_one x 47 _).mono fun e w' ⟨he, hw⟩ => ⟨by rw [he, ← index_by], hw⟩)
    ((Tryz.strings_Count_one s 47 w).mono fun e w' ⟨he, hw⟩ => ⟨by
      rw [he]
      show _ = Ending.returned (Value.int .i64 ((Lib.count s.data.toList [47] : Nat) : Int))
      rw [Lib.count_one]; rfl, hw⟩)
    (by decide) (by decide) (by rw [if_pos (by decide)]; omega)
  rw [Nat.add_sub_cancel, hlen] at c
  have e2 : Lib.cellsOf (Lib.splitB ⟨#[47]⟩ 0 (Lib.countB s ⟨#[47]⟩) s) (Lib.countB s ⟨#[47]⟩ + 1) = (((splitS (bl s)).map ub).map Value.string).toArray := by rw [← split_pieces, ← hlen]; exact Lib.cellsOf_full _
  have e3 : Lib.countB s ⟨#[47]⟩ + 1 = (splitS (bl s)).length := by rw [← hlen, split_pieces, List.length_map]
  rw [e2, e3] at c
  have HC : Hid (Calls Tryz.prog 117 #[.string s, .string ⟨#[47]⟩, .int .i64 0, .int .i64 (-1)] w fun e w' => ∃ A, e = .returned (.slice A (splitS (bl s)).length (splitS (bl s)).length) ∧ Sl w' w'.heap.size 1 A (splitS (bl s)).length (((splitS (bl s)).map ub).map Value.string) ∧ Below w.heap.size w w') :=
    c.mono fun e w' ⟨he, hw⟩ => by
      subst hw
      refine ⟨_, he, ?_, (Below.refl _ w).alloc (Nat.le_refl _) _⟩
      refine ⟨by simp, fun _ => ⟨w.heap.size, 0, rfl, by simp, fun j u hu => ?_⟩⟩
      rw [Nat.zero_add, World.cell?_alloc_new]
      simpa using hu
  clear c e2 e3 hle hlen
  go_enter Tryz.func68, Tryz.ntmps68
  go_wp2_with fail
  refine HC.out.mono ?_
  rintro e w' ⟨A, rfl, hsl, hb⟩
  have HSL := Lib.hid hsl; have HB := Lib.hid hb
  clear hsl hb HC
  go_wp2_with fail
  go_ret
  exact ⟨A, rfl, HSL.out, HB.out⟩
end Go.Proofs.YtmdhlkkekidknaaGreatDoor

namespace Go.Proofs.YtmdhlkkekidknaaGreatDoor
open Go.RowKit

theorem splitS_no : ∀ {l p : List UInt8}, p ∈ splitS l → ∀ c ∈ p, c ≠ 47
  | [], p, h, c, hc => by simp [splitS] at h; subst h; simp at hc
  | d :: r, p, h, c, hc => by
    unfold splitS at h
    split at h
    · rcases List.mem_cons.1 h with rfl | h
      · simp at hc
      · exact splitS_no h c hc
    · rename_i hd
      have ih : ∀ q ∈ splitS r, ∀ c ∈ q, c ≠ 47 := fun q hq => splitS_no hq
      split at h
      · simp at h; subst h; simp at hc; subst hc; exact hd
      · rename_i a t e
        rw [e] at ih
        rcases List.mem_cons.1 h with rfl | h
        · rcases List.mem_cons.1 hc with rfl | hc
          · exact hd
          · exact ih a (List.mem_cons_self ..) c hc
        · exact ih p (List.mem_cons_of_mem _ h) c hc
theorem splitS_size : ∀ l : List UInt8, (splitS l).length ≤ l.length + 1
  | [] => Nat.le_refl _
  | d :: r => by
    have ih := splitS_size r
    unfold splitS
    split
    · simp; omega
    · split
      · simp
      · rename_i a t e
        rw [e] at ih
        simp at ih ⊢; omega
theorem sl_on' {w w' : World} {n size : Nat} {A : Option Addr} {xs : List Value} (h : Sl w w.heap.size size A n xs) (hb : Below w.heap.size w w') : Sl w' w'.heap.size size A n xs := (h.below hb (Nat.le_refl _)).more hb.size
noncomputable def gtR (p : List Itm) (d : Dig) (s : ByteArray) : ByteArray × Int := if pathB s = true then getF p (splitS (bl s)).length d s else (⟨#[]⟩, 6)
def TgE (p : List Itm) (d : Dig) (s : ByteArray) (w : World) (e : Ending) (w' : World) : Prop := e = .returned (.tuple #[.string (gtR p d s).1, .int .i64 (gtR p d s).2]) ∧ Below w.heap.size w w'
def GtI (p : List Itm) (d : Dig) (ns : List (List UInt8)) (R : ByteArray × Int) (j : Nat) : Prop := (j < ns.length ∧ getN p (ns.length - j) d (ns.drop j) = R) ∨ (j = ns.length ∧ datP p d = R)
section
variable {p : List Itm} {d : Dig} {ns : List (List UInt8)} {R : ByteArray × Int} {j : Nat}
theorem GtI.start {s : ByteArray} : GtI p d (splitS (bl s)) (getF p (splitS (bl s)).length d s) 0 := by
  refine .inl ⟨List.length_pos_iff.2 (splitS_ne _), ?_⟩
  unfold getN
  rw [List.drop_zero, Nat.sub_zero, jn_split _ _ (Nat.le_refl _), ub_bl]
theorem GtI.lt (h : GtI p d ns R j) (hj : j < ns.length) : getN p (ns.length - (j + 1) + 1) d (ns.drop j) = R := by
  rcases h with ⟨_, h⟩ | ⟨h, _⟩
  · rw [show ns.length - (j + 1) + 1 = ns.length - j by omega]; exact h
  · omega
theorem GtI.cut (hj : j < ns.length) (hns : ∀ n ∈ ns, ∀ c ∈ n, c ≠ 47) : fsN (ub (jnN (ns.drop j))) = ub (ns[j]'hj) ∧ deN (ub (jnN (ns.drop j))) = decide (j + 1 < ns.length) ∧ (j + 1 < ns.length → rsN (ub (jnN (ns.drop j))) = ub (jnN (ns.drop (j + 1)))) := by
  have hd : ns.drop j = ns[j] :: ns.drop (j + 1) := List.drop_eq_getElem_cons hj
  have hn := hns ns[j] (List.getElem_mem hj)
  by_cases h1 : j + 1 < ns.length
  · have hd1 : ns.drop (j + 1) = ns[j + 1] :: ns.drop (j + 2) := List.drop_eq_getElem_cons h1
    rw [hd, hd1]
    obtain ⟨a, b, c⟩ := cut_jn (n := ns[j]) (m := ns[j + 1]) (r := ns.drop (j + 2)) hn
    exact ⟨a, by rw [c]; simp [h1], fun _ => b⟩
  · have hd1 : ns.drop (j + 1) = [] := List.drop_of_length_le (by omega)
    rw [hd, hd1]
    obtain ⟨a, b⟩ := cut_jn1 hn
    exact ⟨a, by rw [b]; simp [h1], fun h => absurd h h1⟩
theorem GtI.no (h : GtI p d ns R j) (hj : j < ns.length) (hg : getP p d = none) : R = (⟨#[]⟩, 8) := by
  rw [← h.lt hj]; exact getF_none hg
theorem GtI.kind (h : GtI p d ns R j) (hj : j < ns.length) {o : Ob} (hg : getP p d = some o) (hk : o.kind ≠ 2) : R = (⟨#[]⟩, 9) := by
  rw [← h.lt hj]; exact getF_kind hg hk
theorem GtI.ent (h : GtI p d ns R j) (hj : j < ns.length) (hns : ∀ n ∈ ns, ∀ c ∈ n, c ≠ 47) {o : Ob} (hg : getP p d = some o) (hk : o.kind = 2) (he : entN o.ents (ub (ns[j]'hj)) = none) : R = (⟨#[]⟩, 8) := by
  rw [← h.lt hj]; exact getF_ent hg hk (by rw [(GtI.cut hj hns).1]; exact he)
theorem GtI.dir (h : GtI p d ns R j) (hj : j < ns.length) (hns : ∀ n ∈ ns, ∀ c ∈ n, c ≠ 47) {o : Ob} (hg : getP p d = some o) (hk : o.kind = 2) {x : Ent} (he : entN o.ents (ub (ns[j]'hj)) = some x) (hd : x.dir ≠ decide (j + 1 < ns.length)) : R = (⟨#[]⟩, 9) := by
  rw [← h.lt hj]; exact getF_dir hg hk (by rw [(GtI.cut hj hns).1]; exact he) (by rw [(GtI.cut hj hns).2.1]; exact hd)
theorem GtI.next (h : GtI p d ns R j) (hj : j < ns.length) (hns : ∀ n ∈ ns, ∀ c ∈ n, c ≠ 47) {o : Ob} (hg : getP p d = some o) (hk : o.kind = 2) {x : Ent} (he : entN o.ents (ub (ns[j]'hj)) = some x) (hd : x.dir = decide (j + 1 < ns.length)) : GtI p x.dg ns R (j + 1) := by
  have h0 := h.lt hj
  obtain ⟨c1, c2, c3⟩ := GtI.cut hj hns
  by_cases h1 : j + 1 < ns.length
  · refine .inl ⟨h1, ?_⟩
    rw [← h0]
    unfold getN
    rw [getF_sub hg hk (by rw [c1]; exact he) (by rw [hd]; simp [h1]) (by rw [c2]; simp [h1]), c3 h1]
  · refine .inr ⟨by omega, ?_⟩
    rw [← h0]
    unfold getN
    rw [getF_file hg hk (by rw [c1]; exact he) (by rw [hd]; simp [h1]) (by rw [c2]; simp [h1])]
theorem GtI.done (h : GtI p d ns R j) (hj : ¬ j < ns.length) : datP p d = R := by
  rcases h with ⟨h, _⟩ | ⟨_, h⟩
  · exact absurd h hj
  · exact h
end
set_option maxRecDepth 100000 in
set_option maxHeartbeats 8000000 in
theorem tget_any (A : Option Addr) (np cp B : Nat) (p : List Itm) (d : Dig) (path : ByteArray) (w : World) (h0 : Sl w B 3 A np (flat itC p)) (hB : B ≤ w.heap.size) (hn : np ≤ 1000000) (hp : PlOk p) (hps : path.size ≤ 1000000) :
    Calls Tryz.prog 29 #[.slice A np cp, digV d, .string path] w (TgE p d path w) := by
  have HP := Lib.hid hp; have H0 := Lib.hid h0
  obtain ⟨R, hR⟩ : ∃ R, gtR p d path = R := ⟨_, rfl⟩
  unfold TgE
  rw [hR]
  have HR := Lib.hid hR
  obtain ⟨d1, d2⟩ := d
  obtain ⟨W, hW⟩ : ∃ W, w.alloc (.cells #[.int .u64 d1, .int .u64 d2] 30) = W := ⟨_, rfl⟩
  have HB0 : Hid (Below w.heap.size w W) := by rw [← hW]; exact (Below.refl _ w).alloc (Nat.le_refl _) _
  have HK : Hid (Bk W w.heap.size 30 #[.int .u64 d1, .int .u64 d2]) := by rw [← hW]; exact Bk.new w _ _
  have zW : w.heap.size < W.heap.size := HK.out.lt
  have HPI := Lib.hid (isPath_any path W (by unfold maxLen; omega))
  obtain ⟨pb, hpb⟩ : ∃ pb, pathB path = pb := ⟨_, rfl⟩
  rw [hpb] at HPI
  have HPB := Lib.hid hpb
  have HW := Lib.hid hW
  simp only [digV]
  clear hp h0 hR hW hpb
  go_enter Tryz.func29, Tryz.ntmps29
  go_wp2_with fail
  rw [HW.out]
  refine HPI.out.mono ?_
  rintro e w1 ⟨rfl, hb⟩
  have HB1 : Hid (Below w.heap.size w w1) := HB0.out.trans (hb.mono HB0.out.size)
  have HK1 := Lib.hid (HK.out.below hb zW)
  have z1 : w.heap.size < w1.heap.size := HK1.out.lt
  clear hb HPI HK HB0
  cases pb with
  | false =>
    have HF : Hid (R = (⟨#[]⟩, 6)) := by show _ = _; rw [← HR.out]; unfold gtR; rw [HPB.out]; rfl
    go_wp2_with fail
    go_ret2
    exact ⟨by rw [HF.out]; rfl, HB1.out⟩
  | true =>
    have HF : Hid (getF p (splitS (bl path)).length (d1, d2) path = R) := by show _ = _; rw [← HR.out]; unfold gtR; rw [HPB.out]; rfl
    obtain ⟨x0, x1, _, _⟩ := HK1.out.two
    obtain ⟨W2, hW2⟩ : ∃ W2, w1.alloc (.cells #[.int .u64 d1, .int .u64 d2] 30) = W2 := ⟨_, rfl⟩
    have HB2 : Hid (Below w1.heap.size w1 W2) := by rw [← hW2]; exact (Below.refl _ w1).alloc (Nat.le_refl _) _
    have HK2 : Hid (Bk W2 w1.heap.size 30 #[.int .u64 d1, .int .u64 d2]) := by rw [← hW2]; exact Bk.new w1 _ _
    have HS := Lib.hid (split_any path W2 (by omega))
    have hps' : path.size ≤ 100 := path_len HPB.out
    have hns : (splitS (bl path)).length ≤ 101 := by
      have := splitS_size (bl path)
      have : (bl path).length = path.size := by simp [bl]
      omega
    have HNO : Hid (∀ n ∈ splitS (bl path), ∀ c ∈ n, c ≠ 47) := fun n hn => splitS_no hn
    have HI0 : Hid (GtI p (d1, d2) (splitS (bl path)) R 0) := by
      have := GtI.start (p := p) (d := (d1, d2)) (s := path)
      rw [HF.out] at this; exact this
    have HNE := Lib.hid (splitS_ne (bl path))
    obtain ⟨ns, hns'⟩ : ∃ ns, splitS (bl path) = ns := ⟨_, rfl⟩
    rw [hns'] at HS hns HNO HI0 HNE
    obtain ⟨m, hm⟩ : ∃ m, ns.length = m := ⟨_, rfl⟩
    have HM := Lib.hid hm
    rw [hm] at HS hns
    have HW2 := Lib.hid hW2
    clear hns' HF HR hW2 hm
    go_wp2_with fail
    rw [HW2.out]
    refine HS.out.mono ?_
    rintro e w3 ⟨A3, rfl, hsl, hb⟩
    have HSL : Hid (Sl w3 w3.heap.size 1 A3 m (strs (ns.map ub))) := hsl
    have HB3 : Hid (Below w.heap.size w w3) := HB1.out.trans ((HB2.out.trans (hb.mono HB2.out.size)).mono HB1.out.size)
    have HK3 := Lib.hid (HK2.out.below hb HK2.out.lt)
    have hm63 : m ≤ 9223372036854775807 := by omega
    clear hsl hb HS HK1 HK2 HB1 HB2 x0 x1
    go_wp2_with fail
    go_loopw [24] (fun i wr => ∃ (j : Nat) (e1 e2 : Int), i = .int .i64 (j : Int) ∧ j ≤ m ∧ Hid (GtI p (e1, e2) ns R j) ∧ Hid (Bk wr w1.heap.size 30 #[.int .u64 e1, .int .u64 e2]) ∧ Hid (Below w.heap.size w wr) ∧ Hid (Sl wr wr.heap.size 1 A3 m (strs (ns.map ub)))) (fun i _ => m - (intOf i).toNat)
    case atStart => exact ⟨0, d1, d2, rfl, Nat.zero_le _, HI0.out, HK3.out, HB3.out, HSL.out⟩
    case round =>
      obtain ⟨j, e1, e2, rfl, hjm, hI, hKj, hBj, hSj⟩ := hrel
      obtain ⟨x0, x1, _, _⟩ := hKj.out.two
      have f0 := hKj.out.free 0; have f1 := hKj.out.free 1
      by_cases hlt : j < m
      · have hltz : (j : Int) < (m : Int) := by omega
        have hjn : j < ns.length := by rw [HM.out]; exact hlt
        obtain ⟨b, off, x, rfl, hb, hx, hc⟩ := hSj.out.str_at hlt
        have HX : Hid (x = ub ns[j]) := by
          rw [List.getElem?_map, List.getElem?_eq_getElem hjn] at hx
          injection hx with hx; exact hx.symm
        obtain ⟨W4, hW4⟩ : ∃ W4, wr.alloc (.cells #[.string x] 9) = W4 := ⟨_, rfl⟩
        have HB4 : Hid (Below wr.heap.size wr W4) := by rw [← hW4]; exact (Below.refl _ wr).alloc (Nat.le_refl _) _
        have HK4 : Hid (Bk W4 wr.heap.size 9 #[.string x]) := by rw [← hW4]; exact Bk.new wr _ _
        have HBW : Hid (Below w.heap.size w W4) := hBj.out.trans (HB4.out.mono hBj.out.size)
        have zw := hBj.out.size
        have z4 : wr.heap.size < W4.heap.size := HK4.out.lt
        have HG := Lib.hid (pget_any A np cp B p (e1, e2) W4 (H0.out.below HBW.out hB) (Nat.le_trans hB HBW.out.size) hn HP.out)
        unfold GeE at HG
        simp only [digV] at HG
        have HW4 := Lib.hid hW4
        obtain ⟨y0, y1, _, _⟩ := (hKj.out.alloc (.cells #[.string x] 9)).two
        clear hW4 hx
        go_wp2_with fail
        rw [HW4.out]
        refine HG.out.mono ?_
        rintro e w4 ⟨hq, hb⟩
        have HB5 : Hid (Below w.heap.size w w4) := HBW.out.trans (hb.mono HBW.out.size)
        have HK5 := Lib.hid ((hKj.out.below HB4.out hKj.out.lt).below hb (by have := hKj.out.lt; omega))
        have HS5 : Hid (Sl w4 w4.heap.size 1 (some ⟨b, off, none⟩) m (strs (ns.map ub))) := sl_on' (sl_on' hSj.out HB4.out) hb
        have HN5 := Lib.hid (HK4.out.below hb HK4.out.lt)
        have z5 : wr.heap.size < w4.heap.size := by have := hb.size; omega
        clear hb HG HW4 y0 y1 x0 x1 f0 f1
        rcases hq with ⟨o, s, hg, ho, rfl, hm, _⟩ | ⟨hg, rfl⟩
        case inr =>
          have HF := Lib.hid (hI.out.no hjn hg)
          simp only [obV, obC, zOb, zOs]
          clear hg
          go_wp2_with fail
          go_ret2
          exact ⟨by rw [HF.out]; rfl, HB5.out.alloc HB5.out.size _⟩
        case inl =>
          obtain ⟨W5, hW5⟩ : ∃ W5, w4.alloc (.cells (obC o s) 82) = W5 := ⟨_, rfl⟩
          have HB6 : Hid (Below w4.heap.size w4 W5) := by rw [← hW5]; exact (Below.refl _ w4).alloc (Nat.le_refl _) _
          have HO6 : Hid (Bk W5 w4.heap.size 82 (obC o s)) := by rw [← hW5]; exact Bk.new w4 _ _
          have HBV : Hid (Below w.heap.size w W5) := HB5.out.trans (HB6.out.mono HB5.out.size)
          have HE6 : Hid (Sl W5 W5.heap.size 4 s.eA s.en (flat enC o.ents)) := (hm.e.below HB6.out (Nat.le_refl _)).more HB6.out.size
          have HK6 := Lib.hid (HK5.out.below HB6.out HK5.out.lt)
          have HS6 := Lib.hid (sl_on' HS5.out HB6.out)
          have HN6 := Lib.hid (HN5.out.below HB6.out HN5.out.lt)
          have hlen : s.en ≤ 9223372036854775807 := by have := Nat.le_trans hm.ele hm.emx; unfold maxLen at this; exact this
          have HEL := Lib.hid hm.elen
          have z6 : w4.heap.size < W5.heap.size := HO6.out.lt
          have HW5 := Lib.hid hW5
          obtain ⟨q0, q1, q2, q3, q4, q5, q6, q7, q8⟩ := (show Bk W5 w4.heap.size 82 #[.int .i64 o.kind, .string o.data, .slice s.eA s.en s.ec, .int .u64 o.tree.1, .int .u64 o.tree.2, .slice s.pA s.pn s.pc, .string o.auth, .int .i64 o.time, .string o.msg] from HO6.out).nine
          rw [← hW5] at q0 q1 q2 q3 q4 q5 q6 q7 q8
          simp only [obC] at q0 q1 q2 q3 q4 q5 q6 q7 q8 HW5
          simp only [obV, obC]
          clear hm hW5
          by_cases hk : o.kind = 2
          case neg =>
            have HF := Lib.hid (hI.out.kind hjn hg hk)
            have t1 : (o.kind != 2) = true := by rw [bne_iff_ne]; exact hk
            clear hk hg
            go_wp2_with fail
            rw [HW5.out]
            go_ret2
            exact ⟨by rw [HF.out]; rfl, HBV.out⟩
          case pos =>
            have t1 : (o.kind != 2) = false := by rw [hk]; rfl
            have HIX := Lib.hid (ixe_any s.eA s.en s.ec wr.heap.size o.ents x W5 HE6.out HN6.out hlen)
            have HG := Lib.hid hg; have HKD := Lib.hid hk
            unfold IxE at HIX
            clear hk hg
            go_wp2_with fail
            rw [HW5.out]
            refine HIX.out.mono ?_
            rintro e w6 ⟨hq, hb⟩
            have HB7 : Hid (Below w.heap.size w w6) := HBV.out.trans (hb.mono HBV.out.size)
            have HO7 := Lib.hid (HO6.out.below hb HO6.out.lt)
            have HK7 := Lib.hid (HK6.out.below hb HK6.out.lt)
            have HS7 := Lib.hid (sl_on' HS6.out hb)
            have HE7 := Lib.hid (sl_on' HE6.out hb)
            clear hb HIX q0 q1 q2 q3 q4 q5 q6 q7 q8 HO6 HK6 HS6 HE6 HN6 HW5
            obtain ⟨q0, q1, q2, q3, q4, q5, q6, q7, q8⟩ := (show Bk w6 w4.heap.size 82 #[.int .i64 o.kind, .string o.data, .slice s.eA s.en s.ec, .int .u64 o.tree.1, .int .u64 o.tree.2, .slice s.pA s.pn s.pc, .string o.auth, .int .i64 o.time, .string o.msg] from HO7.out).nine
            obtain ⟨y0, y1, _, _⟩ := HK7.out.two
            have g0 := HK7.out.free 0; have g1 := HK7.out.free 1
            rcases hq with ⟨i, en, hi, hei, hent, rfl⟩ | ⟨hent, rfl⟩
            case inr =>
              have HF := Lib.hid (hI.out.ent hjn HNO.out HG.out HKD.out (by rw [← HX.out]; exact hent))
              clear hent
              go_wp2_with fail
              go_ret2
              exact ⟨by rw [HF.out]; rfl, HB7.out⟩
            case inl =>
              rw [HEL.out] at hi
              obtain ⟨b2, off2, en', hA2, hb2, hx2, c0, c1, c2, c3⟩ := HE7.out.en hi
              rw [hei] at hx2
              injection hx2 with hx2
              subst hx2
              obtain ⟨nm, dir, n1, n2⟩ := en
              have HENT : Hid (entN o.ents (ub ns[j]) = some ⟨nm, dir, n1, n2⟩) := by show _ = _; rw [← HX.out]; exact hent
              simp only at c0 c1 c2 c3
              have hi0 : ¬ ((i : Int) < 0) := by omega
              have hm1 : IntKind.i64.wrap ((m : Int) - 1) = (m : Int) - 1 := by rw [IntKind.wrap_i64]; omega
              have hw1 : IntKind.i64.wrap ((j : Int) + 1) = (j : Int) + 1 := by rw [IntKind.wrap_i64]; omega
              have hsen : s.eA = some ⟨b2, off2, none⟩ := hA2
              clear hent hei hA2
              rw [hsen] at q2
              have HSE : Hid (Sl ((w6.setCell ⟨w1.heap.size, 0, none⟩ (.int .u64 n1)).setCell ⟨w1.heap.size, 1, none⟩ (.int .u64 n2)) ((w6.setCell ⟨w1.heap.size, 0, none⟩ (.int .u64 n1)).setCell ⟨w1.heap.size, 1, none⟩ (.int .u64 n2)).heap.size 1 (some ⟨b, off, none⟩) m (strs (ns.map ub))) := by
                have h1 := HS7.out.ne (b := w1.heap.size) (w' := (w6.setCell ⟨w1.heap.size, 0, none⟩ (.int .u64 n1)).setCell ⟨w1.heap.size, 1, none⟩ (.int .u64 n2)) (fun a ha0 ha hab => by
                    obtain ⟨b', off', x', e', _, _, hc'⟩ := HS7.out.str_at ha0
                    rw [ha] at e'
                    injection e' with e'
                    subst e'
                    simp only at hab
                    subst hab
                    rw [HK7.out.cell] at hc'
                    rcases off' with _ | _ | off'
                    · simp at hc'
                    · simp at hc'
                    · simp at hc') (fun k hk => (Below.heap_setCell _ _ _ k hk).trans (Below.heap_setCell _ _ _ k hk))
                exact Lib.hid (by simpa using h1)
              by_cases hl : j + 1 < m
              · have hl1 : ((j : Int) == (m : Int) - 1) = false := beq_eq_false_iff_ne.2 (by omega)
                cases dir with
                | false =>
                  have HF := Lib.hid (hI.out.dir hjn HNO.out HG.out HKD.out HENT.out (by rw [HM.out]; simp [hl]))
                  go_wp2_with fail
                  go_ret2
                  exact ⟨by rw [HF.out]; rfl, HB7.out⟩
                | true =>
                  have HF := Lib.hid (hI.out.next hjn HNO.out HG.out HKD.out HENT.out (by rw [HM.out]; simp [hl]))
                  go_wp2_with fail
                  refine ⟨⟨j + 1, n1, n2, by go_num, hlt, HF.out, HK7.out.set2 _ _, below_set2 HB7.out (by omega) _ _, HSE.out⟩, ?_⟩
                  simp [intOf]; omega
              · have hl1 : ((j : Int) == (m : Int) - 1) = true := beq_iff_eq.2 (by omega)
                cases dir with
                | true =>
                  have HF := Lib.hid (hI.out.dir hjn HNO.out HG.out HKD.out HENT.out (by rw [HM.out]; simp [hl]))
                  go_wp2_with fail
                  go_ret2
                  exact ⟨by rw [HF.out]; rfl, HB7.out⟩
                | false =>
                  have HF := Lib.hid (hI.out.next hjn HNO.out HG.out HKD.out HENT.out (by rw [HM.out]; simp [hl]))
                  go_wp2_with fail
                  refine ⟨⟨j + 1, n1, n2, by go_num, hlt, HF.out, HK7.out.set2 _ _, below_set2 HB7.out (by omega) _ _, HSE.out⟩, ?_⟩
                  simp [intOf]; omega
      · have hltz : ¬ (j : Int) < (m : Int) := by omega
        have HD := Lib.hid (hI.out.done (by rw [HM.out]; exact hlt))
        have HC := Lib.hid (tdata_any A np cp B p (e1, e2) wr (H0.out.below hBj.out hB) (Nat.le_trans hB hBj.out.size) hn HP.out)
        unfold DatE at HC
        simp only [digV] at HC
        go_wp2_with fail
        refine HC.out.mono ?_
        rintro e w4 ⟨rfl, hb⟩
        have HBE : Hid (Below w.heap.size w w4) := hBj.out.trans (hb.mono hBj.out.size)
        clear hb HC
        go_wp2_with fail
        go_ret2
        exact ⟨by rw [HD.out]; rfl, HBE.out⟩
end Go.Proofs.YtmdhlkkekidknaaGreatDoor

namespace Go.Proofs.YtmdhlkkekidknaaGreatDoor
open Go.RowKit Go.Shelf

section
variable {P : Program}
theorem run_copy_k (w : World) (dT sT ty elem : TypeId) (s b o dLen dCap : Nat) (a : Addr) (sLen sCap m : Nat) (cs : List Value) (hu : P.underlying dT = some (.slice elem)) (hs : (P.info? elem).map (·.size) = some s) (hm : Nat.min sLen dLen = m) (hn : cs.length = m * s)
    (hsrc : ∀ j v, cs[j]? = some v → w.cell? (a.add j) = some v) (hc : ∀ j, j < cs.length → (w.cell? ⟨b, o + j, none⟩).isSome = true) (hf : ∀ j, j < cs.length → w.frozen? ⟨b, o + j, none⟩ = false) (h1 : ∀ v ∈ cs, v.oneCell' = true) :
    (Builtin.copy_ #[dT, sT] ty #[.slice (some ⟨b, o, none⟩) dLen dCap, .slice (some a) sLen sCap]).run P w = .ok (goInt m) (w.setCells b o cs) := by
  have hl := run_loadCells_list (P := P) w a cs hsrc
  have hst := run_storeCells_cells (P := P) b o cs 0 w (by simpa using hc) (by simpa using hf) h1
  rw [hn] at hl
  cases hq : P.info? elem with
  | none => simp [hq] at hs
  | some i =>
    have hi : i.size = s := by simpa [hq] using hs
    simp [Builtin.copy_, run_underlying hu, Builtin.lenOf, Builtin.firstCells, sizeOf, typeInfo, hq, hi, hm, hl, hst]
theorem wpList_copy_run (w : World) {ops : Array Oper} {rest : List Oper} {o : Oper} {a : Act} {Q : Exit → Act → World → Prop} (hgd : o.guard = none) (d s : Operand) (t t' : TypeId)
    (ho : o.op = .call { callee := .builtin .copy, args := #[d, s], argTypes := #[t, t'] }) (v u : Value) (hd : a.eval d = v) (hs : a.eval s = u) {v' : Value} {w' : World}
    (hr : (Builtin.copy_ #[t, t'] o.type #[v, u]).run P w = .ok v' w') (h : wpList P ops Q rest (a.put o.dst v') w') : wpList P ops Q (o :: rest) a w := by
  refine wpList_plain hgd fun K hK => ?_
  unfold Oper.wp execOp
  simp only [ho, resolve, invoke, builtin, Sem.run_bind, Sem.run_pure, Result.andThen_ok, List.map_toArray, List.map_cons, List.map_nil, hd, hs, hr]
  exact hK _ _ h
theorem step_copy_run {ops : Array Oper} {o : Oper} {a : Act} {w : World} {K : Act → World → Prop} {Q : Exit → Act → World → Prop} {E : Prop}
    (hg : o.guard = none) (d x : Operand) (dT sT : TypeId) (hop : o.op = Op.call { callee := Callee.builtin Builtin.copy, args := #[d, x], argTypes := #[dT, sT] })
    (v u : Value) (hd : a.eval d = v) (hx : a.eval x = u) {v' : Value} {w' : World} (hr : (Builtin.copy_ #[dT, sT] o.type #[v, u]).run P w = .ok v' w') (hK : K (a.put o.dst v') w') :
    if Region.wanted o (yielded ops a.tmps) = true then Oper.wp P o a w K Q else E := by
  have hw : Region.wanted o (yielded ops a.tmps) = true := by simp [Region.wanted, hg]
  rw [if_pos hw]
  unfold Oper.wp
  simp [execOp, hop, resolve, invoke, builtin, hd, hx, hr, Result.andThen]
  exact hK
end
theorem below_setCells {B b : Nat} {w0 : World} (hb : B ≤ b) : ∀ (vs : List Value) (o : Nat) (w : World), Below B w0 w → Below B w0 (w.setCells b o vs)
  | [], _, _, h => h
  | v :: r, o, _, h => below_setCells hb r (o + 1) _ (h.setCell (p := ⟨b, o, none⟩) hb v)
theorem size_setCells (b : Nat) : ∀ (vs : List Value) (o : Nat) (w : World), (w.setCells b o vs).heap.size = w.heap.size
  | [], _, _ => rfl
  | v :: r, _, _ => by rw [World.setCells, size_setCells b r]; simp [World.setCell]
theorem some_setCells (b : Nat) (vs : List Value) (o : Nat) (w : World) (h : ∀ j, j < vs.length → (w.cell? ⟨b, o + j, none⟩).isSome = true) (k : Nat) (hk : (w.cell? ⟨b, k, none⟩).isSome = true) : ((w.setCells b o vs).cell? ⟨b, k, none⟩).isSome = true := by
  by_cases hin : o ≤ k ∧ k < o + vs.length
  · have := World.cell?_setCells_in b vs o w h (k - o) (by omega)
    rw [show o + (k - o) = k by omega] at this
    rw [this]; rfl
  · rw [World.cell?_setCells_out b vs o w ⟨b, k, none⟩ (fun _ _ => by show k < o ∨ o + vs.length ≤ k; omega)]
    exact hk
theorem flC_one' (l : List Fl) : ∀ u ∈ flat flC l, u.oneCell' = true := fun u hu => by
  unfold flat at hu
  obtain ⟨i, _, h⟩ := List.mem_flatMap.1 hu
  simp [flC] at h
  rcases h with rfl | rfl <;> rfl
theorem infoFlI : (Tryz.prog.info? 68).map (fun i => (i.zero, i.size, i.bytes)) = some (some (.agg #[.string ⟨#[]⟩, .string ⟨#[]⟩]), 2, 32) := by kernel_rfl
theorem sizeFl : (Tryz.prog.info? 68).map (·.size) = some 2 := by
  obtain ⟨i0, hi, _, h1, _⟩ := info_parts infoFlI
  rw [hi]; simp [h1]
def insL (l : List Fl) (i : Nat) (f : Fl) : List Fl := l.take i ++ f :: l.drop i
theorem insL_cells (l : List Fl) (i : Nat) (f : Fl) : flat flC (insL l i f) = (flat flC l).take (i * 2) ++ (flC f ++ (flat flC l).drop (i * 2)) := by
  unfold insL
  rw [flat_append, flat_take flC_len]
  congr 1
  show flC f ++ flat flC (l.drop i) = _
  rw [flat_drop flC_len]
def InsFE (base : Nat) (l : List Fl) (i : Nat) (f : Fl) (w : World) (e : Ending) (w' : World) : Prop :=
  ∃ A c, e = .returned (.slice A (l.length + 1) c) ∧ Sl w' w'.heap.size 2 A (l.length + 1) (flat flC (insL l i f)) ∧ Below base w w' ∧ l.length + 1 ≤ c ∧ c ≤ maxLen
set_option maxRecDepth 100000 in
set_option maxHeartbeats 4000000 in
theorem insF_room (base g n c i vb : Nat) (l : List Fl) (f : Fl) (w : World) (ho : w.ownsRow base 68 2 (.slice (some ⟨g, 0, none⟩) n c) n (flat flC l)) (hln : l.length = n) (hi : i < n) (hroom : n + 1 ≤ c) (hn : n ≤ 1000000) (hvb : Bk w vb 68 #[.string f.1, .string f.2]) (hne : vb ≠ g) :
    Calls Tryz.prog 50 #[.slice (some ⟨g, 0, none⟩) n c, .int .i64 i, .slice (some ⟨vb, 0, none⟩) 1 1] w (InsFE base l i f w) := by
  obtain ⟨hxl, hform⟩ := ho
  rcases hform with ⟨hv, _⟩ | ⟨g', c', cur, hv, hb, hh, h1, h2, h3, h4⟩
  · cases hv
  injection hv with hv1 hv2 hv3
  injection hv1 with hv1
  injection hv1 with hv1
  subst hv1; subst hv3
  have hgn : vb ≠ g := hne
  have hcell : ∀ j v, (flat flC l)[j]? = some v → w.cell? ⟨g, j, none⟩ = some v := fun j v hj => by
    rw [← h4, List.getElem?_take] at hj
    split at hj
    · simp [World.cell?, hh]; simpa using hj
    · cases hj
  have hsp : ∀ j, j < (n + 1) * 2 → (w.cell? ⟨g, j, none⟩).isSome = true := fun j hj => by
    have : j < cur.size := by omega
    simp [World.cell?, hh, this]
  have hfz : ∀ j, w.frozen? ⟨g, j, none⟩ = false := fun j => by simp [World.frozen?, hh]
  have hsa : w.shape? vb = some (68, 2) := by
    have : w.heap[vb]? = _ := hvb
    simp [World.shape?, this]
  have hsb : w.shape? g = some (68, cur.size) := by simp [World.shape?, hh]
  have hov : ∀ o lb cb, (callFunc 101 #[.slice (some ⟨vb, 0, none⟩) 1 1, .slice (some ⟨g, o, none⟩) lb cb]).run Tryz.prog w = .ok (.value (.bool false)) w := fun o lb cb => by
    rw [run_callFunc_extern Tryz.func101 (by kernel_rfl) (by kernel_rfl) (by kernel_rfl) (e := Extern.SlicesOverlaps.overlaps #[24, 24] #[4]) (by kernel_rfl),
      Lib.run_overlaps_apart w 24 4 68 Tryz.underlying24 2 (Tryz.sizeOf68) ⟨vb, 0, none⟩ ⟨g, o, none⟩ 1 1 lb cb hgn 68 68 2 cur.size hsa hsb (by omega) (hvb.free 0) (hvb.free 2)]
    rfl
  obtain ⟨xs, hxs⟩ : ∃ xs, flat flC l = xs := ⟨_, rfl⟩
  have HONE : Hid (∀ u ∈ xs, u.oneCell' = true) := by rw [← hxs]; exact flC_one' l
  have HINS := Lib.hid (insL_cells l i f)
  rw [hxs] at hxl hcell HINS
  have hdl : (xs.drop (i * 2)).length = (n - i) * 2 := by rw [List.length_drop]; omega
  have hz2 : ¬ ((i : Int) = (n : Int)) := by omega
  have hz3 : ¬ ((c : Int) < (n : Int) + 1) := by omega
  have hw1 : IntKind.i64.wrap ((i : Int) + 1) = (i : Int) + 1 := by rw [IntKind.wrap_i64]; omega
  have hb1 : (0 : Int) ≤ (i : Int) + 1 := by omega
  have hin : i ≤ n := by omega
  have htn : ((i : Int) + 1).toNat = i + 1 := by omega
  have hb2 : ¬ (c = i + 1) := by omega
  have hb3 : (i : Int) ≤ (n : Int) + 1 := by omega
  have hb4 : ¬ (c = i) := by omega
  have hc63 : c ≤ 9223372036854775807 := by unfold maxLen at h2; exact h2
  have HH := Lib.hid hh; have HVB := Lib.hid hvb
  have HCL := Lib.hid hcell; have HSP := Lib.hid hsp; have HFZ := Lib.hid hfz
  obtain ⟨W1, hW1⟩ : ∃ W1, w.drew.setCells g ((i + 1) * 2) (xs.drop (i * 2)) = W1 := ⟨_, rfl⟩
  have hcp1 : ∀ ty, (Builtin.copy_ #[24, 24] ty #[.slice (some ⟨g, (i + 1) * 2, none⟩) (n + 1 - (i + 1)) (c - (i + 1)), .slice (some ⟨g, i * 2, none⟩) (n + 1 - i) (c - i)]).run Tryz.prog w.drew = .ok (goInt ((n - i : Nat) : Int)) W1 := fun ty => by
    rw [← hW1]
    exact run_copy_k w.drew 24 24 ty 68 2 g ((i + 1) * 2) (n + 1 - (i + 1)) (c - (i + 1)) ⟨g, i * 2, none⟩ (n + 1 - i) (c - i) (n - i) (xs.drop (i * 2)) Tryz.underlying24 sizeFl (by simp only [Nat.min_def]; split <;> omega) hdl
      (fun j v hj => by rw [Addr.add_lit]; exact hcell _ v (by rwa [List.getElem?_drop] at hj)) (fun j hj => hsp _ (by rw [hdl] at hj; omega)) (fun j hj => hfz _) (fun v hv => HONE.out v (List.mem_of_mem_drop hv))
  have hs1 : ∀ k, k < (n + 1) * 2 → (W1.cell? ⟨g, k, none⟩).isSome = true := fun k hk => by
    rw [← hW1]
    exact some_setCells g (xs.drop (i * 2)) ((i + 1) * 2) w.drew (fun j hj => hsp _ (by rw [hdl] at hj; omega)) k (hsp k hk)
  have hvc : W1.cell? ⟨vb, 0, none⟩ = some (.string f.1) ∧ W1.cell? ⟨vb, 1, none⟩ = some (.string f.2) := by
    rw [← hW1]
    rw [World.cell?_setCells_out g _ _ _ _ (fun h _ => absurd h hgn), World.cell?_setCells_out g _ _ _ _ (fun h _ => absurd h hgn)]
    exact ⟨hvb.cell 0, hvb.cell 1⟩
  have hcp2 : ∀ ty, (Builtin.copy_ #[24, 24] ty #[.slice (some ⟨g, i * 2, none⟩) (n + 1 - i) (c - i), .slice (some ⟨vb, 0, none⟩) 1 1]).run Tryz.prog W1 = .ok (goInt 1) (W1.setCells g (i * 2) (flC f)) := fun ty =>
    run_copy_k W1 24 24 ty 68 2 g (i * 2) (n + 1 - i) (c - i) ⟨vb, 0, none⟩ 1 1 1 (flC f) Tryz.underlying24 sizeFl (by simp only [Nat.min_def]; split <;> omega) rfl
      (fun j v hj => by
        rw [Addr.add_lit]
        rcases j with _ | _ | j
        · simp [flC] at hj; subst hj; simpa using hvc.1
        · simp [flC] at hj; subst hj; simpa using hvc.2
        · simp [flC] at hj)
      (fun j hj => hs1 _ (by have : (flC f).length = 2 := rfl; omega)) (fun j hj => by rw [← hW1, World.frozen?_setCells]; exact hfz _) (fun v hv => by simp [flC] at hv; rcases hv with rfl | rfl <;> rfl)
  have HFIN : Hid (Sl (W1.setCells g (i * 2) (flC f)) (W1.setCells g (i * 2) (flC f)).heap.size 2 (some ⟨g, 0, none⟩) (n + 1) (flat flC (insL l i f))) := by
    refine ⟨by rw [flat_len flC_len, ← hln]; unfold insL; simp; omega, fun _ => ⟨g, 0, rfl, ?_, fun j u hu => ?_⟩⟩
    · rw [size_setCells, ← hW1, size_setCells]; exact (Array.getElem?_eq_some_iff.1 hh).1
    · rw [HINS.out] at hu
      rw [Nat.zero_add]
      have hfl : (flC f).length = 2 := rfl
      have htl : (xs.take (i * 2)).length = i * 2 := by rw [List.length_take]; omega
      by_cases ha : j < i * 2
      · rw [List.getElem?_append_left (by omega), List.getElem?_take, if_pos ha] at hu
        rw [World.cell?_setCells_out g _ _ _ _ (fun _ _ => by show j < _ ∨ _; omega), ← hW1, World.cell?_setCells_out g _ _ _ _ (fun _ _ => by show j < _ ∨ _; omega)]
        exact hcell j u hu
      · rw [List.getElem?_append_right (by omega), htl] at hu
        by_cases hb' : j < i * 2 + 2
        · rw [List.getElem?_append_left (by omega)] at hu
          have := World.cell?_setCells_in g (flC f) (i * 2) W1 (fun q hq => hs1 _ (by omega)) (j - i * 2) (by omega)
          rw [show i * 2 + (j - i * 2) = j by omega] at this
          rw [this, ← hu]; exact (List.getElem?_eq_getElem _).symm
        · rw [List.getElem?_append_right (by omega), hfl] at hu
          rw [World.cell?_setCells_out g _ _ _ _ (fun _ _ => by show j < _ ∨ _ ≤ j; omega), ← hW1]
          have hlt := (List.getElem?_eq_some_iff.1 hu).1
          have := World.cell?_setCells_in g (xs.drop (i * 2)) ((i + 1) * 2) w.drew (fun q hq => hsp _ (by omega)) (j - i * 2 - 2) hlt
          rw [show (i + 1) * 2 + (j - i * 2 - 2) = j by omega] at this
          rw [this, ← hu]; exact (List.getElem?_eq_getElem _).symm
  have HBE : Hid (Below base w (W1.setCells g (i * 2) (flC f))) := by
    rw [← hW1]
    exact below_setCells hb _ _ _ (below_setCells hb _ _ _ (Below.refl _ w).drew)
  clear hxs hh h4 hvb hcell hsp hfz hs1 hvc hW1
  go_enter Tryz.func50, Tryz.ntmps50
  go_wp2_with (simp only [hov])
  go_region_law (refine step_copy_run rfl _ _ 24 24 rfl _ _ (by simp [Act.eval, Act.put]) (by simp [Act.eval, Act.put]) (hcp1 _) ?_)
  go_wp2_with (at_builtin; refine wpList_copy_run _ rfl _ _ 24 24 rfl _ _ rfl rfl (hcp2 _) ?_)
  go_ret
  exact ⟨_, c, by rw [hln]; rfl, by rw [hln]; exact HFIN.out, HBE.out, by omega, h2⟩
set_option maxRecDepth 100000 in
set_option maxHeartbeats 4000000 in
theorem insF_grow (base g n i vb : Nat) (l : List Fl) (f : Fl) (w : World) (h0 : Sl w w.heap.size 2 (some ⟨g, 0, none⟩) n (flat flC l)) (hln : l.length = n) (hi : i < n) (hn : n ≤ 1000000) (hvb : Bk w vb 68 #[.string f.1, .string f.2]) (hbw : base ≤ w.heap.size) :
    Calls Tryz.prog 50 #[.slice (some ⟨g, 0, none⟩) n n, .int .i64 i, .slice (some ⟨vb, 0, none⟩) 1 1] w (InsFE base l i f w) := by
  obtain ⟨hxl, hform⟩ := h0
  obtain ⟨b', off', hv, hgw, hcell0⟩ := hform (by omega)
  injection hv with hv
  injection hv with hv1 hv2 hv3
  subst hv1; subst hv2
  obtain ⟨xs, hxs⟩ : ∃ xs, flat flC l = xs := ⟨_, rfl⟩
  have HONE : Hid (∀ u ∈ xs, u.oneCell' = true) := by rw [← hxs]; exact flC_one' l
  have HINS := Lib.hid (insL_cells l i f)
  rw [hxs] at hxl hcell0 HINS
  have hcell : ∀ j v, xs[j]? = some v → w.cell? ⟨g, j, none⟩ = some v := fun j v hj => by have := hcell0 j v hj; rwa [Nat.zero_add] at this
  have hdl : (xs.drop (i * 2)).length = (n - i) * 2 := by rw [List.length_drop]; omega
  have htl : (xs.take (i * 2)).length = i * 2 := by rw [List.length_take]; omega
  have hfl : (flC f).length = 2 := rfl
  have hvw : vb < w.heap.size := hvb.lt
  obtain ⟨i0, hii, hz0, hz1, hz2'⟩ := info_parts infoFlI
  have hold : (Builtin.firstCells i0.size i (.slice (some ⟨g, 0, none⟩) i n)).run Tryz.prog w.drew = .ok (xs.take (i * 2)).toArray w.drew := by
    rw [hz1]
    exact run_firstCells_some w.drew 2 i ⟨g, 0, none⟩ i n (xs.take (i * 2)) htl (fun j v hj => by
      rw [Addr.add_lit, Nat.zero_add]
      rw [List.getElem?_take] at hj
      split at hj
      · exact hcell j v hj
      · cases hj)
  have hik : i + (n + 1 - i) = n + 1 := by omega
  have hkk : (n : Int) + 1 - (i : Int) = ((n + 1 - i : Nat) : Int) := by omega
  have hrz : ∀ ty, (Builtin.append_ #[24, 3] ty #[.slice (some ⟨g, 0, none⟩) i n, .int .i64 ((n : Int) + 1 - (i : Int))]).run Tryz.prog w = .ok (.slice (some ⟨w.heap.size, 0, none⟩) (n + 1) (grownCap w (n + 1) n 68)) (w.drew.alloc (.cells ((xs.take (i * 2)).toArray ++ Builtin.zeroCells (Value.agg #[.string ⟨#[]⟩, .string ⟨#[]⟩]).cells (n + 1 - i) ++ Builtin.zeroCells (Value.agg #[.string ⟨#[]⟩, .string ⟨#[]⟩]).cells (grownCap w (n + 1) n 68 - (n + 1))) 68)) := fun ty => by
    have h := Lib.run_append_grow_zeros w 24 3 ty 68 i0 _ .i64 .i64 Tryz.underlying24 Tryz.underlying3 hii hz0 (some ⟨g, 0, none⟩) i n (xs.take (i * 2)) hold (n + 1 - i) (by omega) (by rw [hz1]; omega) (by omega) (by omega) (by rw [hz2']; omega) (by rw [hz2', hik]; exact growslice_fits (by omega) (by omega))
    rw [hik] at h
    rw [hkk]
    exact h
  have hGn := grownCap_ge w (n + 1) n 68
  have hGm := grownCap_le_maxLen w (n + 1) n 68 (by unfold maxLen; omega)
  obtain ⟨G, hG⟩ : ∃ G, grownCap w (n + 1) n 68 = G := ⟨_, rfl⟩
  rw [hG] at hrz hGn hGm
  obtain ⟨ROW, hROW⟩ : ∃ ROW : Array Value, (xs.take (i * 2)).toArray ++ Builtin.zeroCells (Value.agg #[.string ⟨#[]⟩, .string ⟨#[]⟩]).cells (n + 1 - i) ++ Builtin.zeroCells (Value.agg #[.string ⟨#[]⟩, .string ⟨#[]⟩]).cells (G - (n + 1)) = ROW := ⟨_, rfl⟩
  rw [hROW] at hrz
  have hRl : (n + 1) * 2 ≤ ROW.size := by
    rw [← hROW, Array.size_append, Array.size_append, size_zeroCells, size_zeroCells]
    show (n + 1) * 2 ≤ (xs.take (i * 2)).toArray.size + (n + 1 - i) * 2 + (G - (n + 1)) * 2
    rw [List.size_toArray, htl]; omega
  have hRt : ∀ j, j < i * 2 → ROW[j]? = xs[j]? := fun j hj => by
    rw [← hROW, Array.append_assoc, Array.getElem?_append_left (by rw [List.size_toArray, htl]; exact hj), List.getElem?_toArray, List.getElem?_take, if_pos hj]
  obtain ⟨W1, hW1⟩ : ∃ W1, w.drew.alloc (.cells ROW 68) = W1 := ⟨_, rfl⟩
  rw [hW1] at hrz
  have hb1 : Bk W1 w.heap.size 68 ROW := by rw [← hW1]; exact Bk.new w.drew _ _
  have hB1 : Below w.heap.size w W1 := by rw [← hW1]; exact (Below.refl _ w).drew.alloc (Nat.le_refl _) _
  have hs1 : ∀ k, k < (n + 1) * 2 → (W1.cell? ⟨w.heap.size, k, none⟩).isSome = true := fun k hk => by
    rw [hb1.cell, Array.getElem?_eq_getElem (by omega)]; rfl
  obtain ⟨W2, hW2⟩ : ∃ W2, W1.setCells w.heap.size (i * 2) (flC f) = W2 := ⟨_, rfl⟩
  have hcp1 : ∀ ty, (Builtin.copy_ #[24, 24] ty #[.slice (some ⟨w.heap.size, i * 2, none⟩) (n + 1 - i) (G - i), .slice (some ⟨vb, 0, none⟩) 1 1]).run Tryz.prog W1 = .ok (goInt 1) W2 := fun ty => by
    rw [← hW2]
    exact run_copy_k W1 24 24 ty 68 2 w.heap.size (i * 2) (n + 1 - i) (G - i) ⟨vb, 0, none⟩ 1 1 1 (flC f) Tryz.underlying24 sizeFl (by simp only [Nat.min_def]; split <;> omega) rfl
      (fun j v hj => by
        rw [Addr.add_lit]
        have hvk := hvb.below hB1 hvw
        rcases j with _ | _ | j
        · simp [flC] at hj; subst hj; simpa using hvk.cell 0
        · simp [flC] at hj; subst hj; simpa using hvk.cell 1
        · simp [flC] at hj)
      (fun j hj => hs1 _ (by rw [hfl] at hj; omega)) (fun j hj => hb1.free _) (fun v hv => by simp [flC] at hv; rcases hv with rfl | rfl <;> rfl)
  have hs2 : ∀ k, k < (n + 1) * 2 → (W2.cell? ⟨w.heap.size, k, none⟩).isSome = true := fun k hk => by
    rw [← hW2]
    exact some_setCells w.heap.size (flC f) (i * 2) W1 (fun j hj => hs1 _ (by rw [hfl] at hj; omega)) k (hs1 k hk)
  have hB2 : Below w.heap.size w W2 := by rw [← hW2]; exact below_setCells (Nat.le_refl _) _ _ _ hB1
  have hcp2 : ∀ ty, (Builtin.copy_ #[24, 24] ty #[.slice (some ⟨w.heap.size, (i + 1) * 2, none⟩) (n + 1 - (i + 1)) (G - (i + 1)), .slice (some ⟨g, i * 2, none⟩) (n - i) (n - i)]).run Tryz.prog W2.drew = .ok (goInt ((n - i : Nat) : Int)) (W2.drew.setCells w.heap.size ((i + 1) * 2) (xs.drop (i * 2))) := fun ty =>
    run_copy_k W2.drew 24 24 ty 68 2 w.heap.size ((i + 1) * 2) (n + 1 - (i + 1)) (G - (i + 1)) ⟨g, i * 2, none⟩ (n - i) (n - i) (n - i) (xs.drop (i * 2)) Tryz.underlying24 sizeFl (by simp only [Nat.min_def]; split <;> omega) hdl
      (fun j v hj => by
        rw [Addr.add_lit]
        exact (hB2.cell (p := ⟨g, i * 2 + j, none⟩) hgw).trans (hcell _ v (by rwa [List.getElem?_drop] at hj)))
      (fun j hj => hs2 _ (by rw [hdl] at hj; omega)) (fun j hj => by show W2.frozen? _ = false; rw [← hW2, World.frozen?_setCells]; exact hb1.free _) (fun v hv => HONE.out v (List.mem_of_mem_drop hv))
  have HFIN : Hid (Sl (W2.drew.setCells w.heap.size ((i + 1) * 2) (xs.drop (i * 2))) (W2.drew.setCells w.heap.size ((i + 1) * 2) (xs.drop (i * 2))).heap.size 2 (some ⟨w.heap.size, 0, none⟩) (n + 1) (flat flC (insL l i f))) := by
    refine ⟨by rw [flat_len flC_len, ← hln]; unfold insL; simp; omega, fun _ => ⟨w.heap.size, 0, rfl, ?_, fun j u hu => ?_⟩⟩
    · rw [size_setCells]
      show _ < W2.heap.size
      rw [← hW2, size_setCells]; exact hb1.lt
    · rw [HINS.out] at hu
      rw [Nat.zero_add]
      by_cases ha : j < i * 2
      · rw [List.getElem?_append_left (by omega), List.getElem?_take, if_pos ha] at hu
        rw [World.cell?_setCells_out w.heap.size _ _ _ _ (fun _ _ => by show j < _ ∨ _; omega)]
        show W2.cell? _ = _
        rw [← hW2, World.cell?_setCells_out w.heap.size _ _ _ _ (fun _ _ => by show j < _ ∨ _; omega), hb1.cell, hRt j ha]
        exact hu
      · rw [List.getElem?_append_right (by omega), htl] at hu
        by_cases hb' : j < i * 2 + 2
        · rw [List.getElem?_append_left (by omega)] at hu
          rw [World.cell?_setCells_out w.heap.size _ _ _ _ (fun _ _ => by show j < _ ∨ _; omega)]
          show W2.cell? _ = _
          rw [← hW2]
          have := World.cell?_setCells_in w.heap.size (flC f) (i * 2) W1 (fun q hq => hs1 _ (by rw [hfl] at hq; omega)) (j - i * 2) (by omega)
          rw [show i * 2 + (j - i * 2) = j by omega] at this
          rw [this, ← hu]; exact (List.getElem?_eq_getElem _).symm
        · rw [List.getElem?_append_right (by omega), hfl] at hu
          have hlt := (List.getElem?_eq_some_iff.1 hu).1
          have := World.cell?_setCells_in w.heap.size (xs.drop (i * 2)) ((i + 1) * 2) W2.drew (fun q hq => hs2 _ (by rw [hdl] at hq; omega)) (j - i * 2 - 2) hlt
          rw [show (i + 1) * 2 + (j - i * 2 - 2) = j by omega] at this
          rw [this, ← hu]; exact (List.getElem?_eq_getElem _).symm
  have HBE : Hid (Below base w (W2.drew.setCells w.heap.size ((i + 1) * 2) (xs.drop (i * 2)))) := below_setCells hbw _ _ _ (hB2.drew.mono hbw)
  have hz2 : ¬ ((i : Int) = (n : Int)) := by omega
  have hz3 : (n : Int) < (n : Int) + 1 := by omega
  have hw1 : IntKind.i64.wrap ((i : Int) + 1) = (i : Int) + 1 := by rw [IntKind.wrap_i64]; omega
  have hb1' : (0 : Int) ≤ (i : Int) + 1 := by omega
  have hin : i ≤ n := by omega
  have htn : ((i : Int) + 1).toNat = i + 1 := by omega
  have hb3 : (i : Int) ≤ (n : Int) := by omega
  have hGi : ¬ (G = i) := by omega
  have hGim : ¬ (G = i + 1) := by omega
  have hci : ¬ (n = i) := by omega
  have hG63 : G ≤ 9223372036854775807 := by unfold maxLen at hGm; exact hGm
  clear hxs hvb hcell hcell0 hold hik hkk hii hz0 hz1 hz2' hG hROW hRl hRt hW1 hb1 hB1 hs1 hs2 hW2 hB2
  go_enter Tryz.func50, Tryz.ntmps50
  go_wp2_with (first
    | (at_builtin; refine Lib.wpList_append_run _ rfl _ _ _ _ rfl _ _ rfl rfl _ _ (hrz _) ?_)
    | (at_builtin; refine wpList_copy_run _ rfl _ _ 24 24 rfl _ _ rfl rfl (hcp1 _) ?_))
  go_region_law (refine step_copy_run rfl _ _ 24 24 rfl _ _ (by simp [Act.eval, Act.put]) (by simp [Act.eval, Act.put]) (hcp2 _) ?_)
  go_wp2_with fail
  go_ret
  exact ⟨_, G, by rw [hln]; rfl, by rw [hln]; exact HFIN.out, HBE.out, by omega, hGm⟩
set_option maxRecDepth 100000 in
set_option maxHeartbeats 4000000 in
theorem insF_end (base n c vb : Nat) (A : Option Addr) (l : List Fl) (f : Fl) (w : World) (ho : w.ownsRow base 68 2 (.slice A n c) n (flat flC l)) (hln : l.length = n) (hn : n ≤ 1000000) (hvb : Bk w vb 68 #[.string f.1, .string f.2]) (hbw : base ≤ w.heap.size) :
    Calls Tryz.prog 50 #[.slice A n c, .int .i64 n, .slice (some ⟨vb, 0, none⟩) 1 1] w (InsFE base l n f w) := by
  have HO := Lib.hid ho
  have hnc := (ownsRow_form ho)
  obtain ⟨A', c', e1, hc1, hc2⟩ := hnc
  simp only [Value.slice.injEq, true_and] at e1
  obtain ⟨rfl, rfl⟩ := e1
  obtain ⟨i0, hi, hz0, hz1, hz2⟩ := info_parts infoFlI
  have Hi := Lib.hid hi; have Hz0 := Lib.hid hz0; have Hz1 := Lib.hid hz1; have Hz2 := Lib.hid hz2
  have HV : Hid (Sl w w.heap.size 2 (some ⟨vb, 0, none⟩) 1 (flC f)) := Sl.of_bk (n := 1) (size := 2) hvb rfl
  have HL : Hid (insL l n f = l ++ [f]) := by show _ = _; unfold insL; rw [List.take_of_length_le (by omega), List.drop_of_length_le (by omega)]
  have hc63 : c ≤ 9223372036854775807 := by unfold maxLen at hc2; exact hc2
  have HGE : Hid (∀ k, (Value.slice A n c).ownBlock = some k → base ≤ k) := fun k hk => ownBlock_ge ho k hk
  have HC2 := Lib.hid hc2
  clear ho hvb hi hz0 hz1 hz2
  have key : ∀ (A4 : Option Addr) (c4 : Nat) (w4 : World), w4.ownsRow base 68 2 (.slice A4 (n + 1) c4) (n + 1) (flat flC l ++ flC f) → w.grownBy w4 (Value.slice A n c).ownBlock → n + 1 ≤ c4 → c4 ≤ maxLen → InsFE base l n f w (.returned (.slice A4 (n + 1) c4)) w4 := fun A4 c4 w4 ho4 hg4 hc41 hc42 => by
    refine ⟨A4, c4, by rw [hln], ?_, (Below.refl base w).grown hg4 hbw (fun k hk => HGE.out k hk), by omega, hc42⟩
    rw [hln, HL.out]
    have e : flat flC (l ++ [f]) = flat flC l ++ flC f := by rw [flat_append]; simp [flat]
    rw [e]
    exact Sl.of_own ho4
  have HKEY := Lib.hid key
  clear key
  go_enter Tryz.func50, Tryz.ntmps50
  by_cases hcn : c = n
  case' pos => subst hcn
  all_goals
    go_wp2_with (at_builtin; refine halt_ ?_)
    refine unhalt ?_
    refine wpList_append_sl (base := base) (size := 2) _ rfl (.tmp 23) (.tmp 24) 24 rfl 68 i0 _ 32 Tryz.underlying24 Hi.out Hz0.out Hz1.out Hz2.out rfl (by decide) _ _ (flat flC l) rfl HO.out w.heap.size _ 1 1 (flC f) rfl HV.out (by simp [flC, Value.oneCell']) (by unfold maxLen; omega) (by omega) hbw ?_
    intro A4 c4 w4 ho4 hg4 hc41 hc42
    have HF := Lib.hid (HKEY.out A4 c4 w4 ho4 hg4 hc41 hc42)
    clear ho4 hg4
    go_wp2_with fail
    go_ret
    exact HF.out
end Go.Proofs.YtmdhlkkekidknaaGreatDoor

namespace Go.Proofs.YtmdhlkkekidknaaGreatDoor
open Go.RowKit Go.Shelf

theorem run_clear_fl (w : World) (ty : TypeId) (b o c : Nat) (hc : ∀ j, j < 2 → (w.cell? ⟨b, o + j, none⟩).isSome = true) (hf : ∀ j, j < 2 → w.frozen? ⟨b, o + j, none⟩ = false) :
    (Builtin.clear_ #[24] ty #[.slice (some ⟨b, o, none⟩) 1 c]).run Tryz.prog w = .ok (.tuple #[]) (w.setCells b o [.string ⟨#[]⟩, .string ⟨#[]⟩]) := by
  have hv := Tryz.zeroValue68
  have hzc : (Builtin.zeroCells (Value.agg #[.string ⟨#[]⟩, .string ⟨#[]⟩]).cells 1).toList = [.string ⟨#[]⟩, .string ⟨#[]⟩] := by
    simp [Builtin.zeroCells, Value.cells]
    rfl
  have hst := run_storeCells_cells (P := Tryz.prog) b o [.string ⟨#[]⟩, .string ⟨#[]⟩] 0 w (by simpa using hc) (by simpa using hf) (by intro v hv'; simp at hv'; subst hv'; rfl)
  simp only [Nat.add_zero] at hst
  simp [Builtin.clear_, run_underlying Tryz.underlying24, hv, hzc, hst]
def delL (l : List Fl) (i : Nat) : List Fl := l.take i ++ l.drop (i + 1)
theorem delL_cells (l : List Fl) (i : Nat) : flat flC (delL l i) = (flat flC l).take (i * 2) ++ (flat flC l).drop ((i + 1) * 2) := by
  unfold delL
  rw [flat_append, flat_take flC_len, flat_drop flC_len]
def DelFE (base : Nat) (l : List Fl) (i : Nat) (w : World) (e : Ending) (w' : World) : Prop :=
  ∃ A c, e = .returned (.slice A (l.length - 1) c) ∧ Sl w' w'.heap.size 2 A (l.length - 1) (flat flC (delL l i)) ∧ Below base w w' ∧ l.length - 1 ≤ c ∧ c ≤ maxLen
set_option maxRecDepth 100000 in
set_option maxHeartbeats 4000000 in
theorem delF_any (base g n c i : Nat) (l : List Fl) (w : World) (ho : w.ownsRow base 68 2 (.slice (some ⟨g, 0, none⟩) n c) n (flat flC l)) (hln : l.length = n) (hi : i < n) (hn : n ≤ 1000000) :
    Calls Tryz.prog 65 #[.slice (some ⟨g, 0, none⟩) n c, .int .i64 i, .int .i64 ((i : Int) + 1)] w (DelFE base l i w) := by
  obtain ⟨hxl, hform⟩ := ho
  rcases hform with ⟨hv, _⟩ | ⟨g', c', cur, hv, hb, hh, h1, h2, h3, h4⟩
  · cases hv
  injection hv with hv1 hv2 hv3
  injection hv1 with hv1
  injection hv1 with hv1
  subst hv1; subst hv3
  have hcell : ∀ j v, (flat flC l)[j]? = some v → w.cell? ⟨g, j, none⟩ = some v := fun j v hj => by
    rw [← h4, List.getElem?_take] at hj
    split at hj
    · simp [World.cell?, hh]; simpa using hj
    · cases hj
  have hsp : ∀ j, j < n * 2 → (w.cell? ⟨g, j, none⟩).isSome = true := fun j hj => by
    have : j < cur.size := by omega
    simp [World.cell?, hh, this]
  have hfz : ∀ j, w.frozen? ⟨g, j, none⟩ = false := fun j => by simp [World.frozen?, hh]
  obtain ⟨xs, hxs⟩ : ∃ xs, flat flC l = xs := ⟨_, rfl⟩
  have HONE : Hid (∀ u ∈ xs, u.oneCell' = true) := by rw [← hxs]; exact flC_one' l
  have HINS := Lib.hid (delL_cells l i)
  rw [hxs] at hxl hcell HINS
  obtain ⟨news, hnews⟩ : ∃ news, xs.drop ((i + 1) * 2) = news := ⟨_, rfl⟩
  have hdl : news.length = (n - (i + 1)) * 2 := by rw [← hnews, List.length_drop]; omega
  have htl : (xs.take (i * 2)).length = i * 2 := by rw [List.length_take]; omega
  obtain ⟨i0, hii, hz0, hz1, hz2'⟩ := info_parts infoFlI
  have HII := Lib.hid hii; have HZ1 := Lib.hid hz1
  -- where the rest lies
  obtain ⟨A, hA, hsrc⟩ : ∃ A : Addr, (if c = i + 1 then some (⟨g, 0, none⟩ : Addr) else some ⟨g, (i + 1) * 2, none⟩) = some A ∧ Hid (∀ t u, news[t]? = some u → w.drew.cell? (A.add t) = some u) := by
    by_cases h : c = i + 1
    · refine ⟨⟨g, 0, none⟩, by simp [h], fun t u hu => ?_⟩
      have h0 : news.length = 0 := by rw [hdl]; omega
      rw [List.length_eq_zero_iff.1 h0] at hu
      simp at hu
    · refine ⟨⟨g, (i + 1) * 2, none⟩, by simp [h], fun t u hu => ?_⟩
      rw [Addr.add_lit]
      exact hcell _ u (by rw [← hnews, List.getElem?_drop] at hu; exact hu)
  have s1 : Hid (news.length = (n - (i + 1)) * 2) := hdl
  have s2 : Hid (∀ u ∈ news, u.oneCell' = true) := fun u hu => HONE.out u (by rw [← hnews] at hu; exact List.mem_of_mem_drop hu)
  have s3 : Hid (∀ t, t < news.length → (w.drew.cell? ⟨g, 0 + i * 2 + t, none⟩).isSome = true ∧ w.drew.frozen? ⟨g, 0 + i * 2 + t, none⟩ = false) := fun t ht => by
    rw [hdl] at ht
    exact ⟨hsp _ (by omega), hfz _⟩
  obtain ⟨W1, hW1⟩ : ∃ W1, w.drew.setCells g (0 + i * 2) news = W1 := ⟨_, rfl⟩
  have hs1 : ∀ k, k < n * 2 → (W1.cell? ⟨g, k, none⟩).isSome = true := fun k hk => by
    rw [← hW1]
    exact some_setCells g news (0 + i * 2) w.drew (fun j hj => by rw [hdl] at hj; exact hsp _ (by omega)) k (hsp k hk)
  have hf1 : ∀ k, W1.frozen? ⟨g, k, none⟩ = false := fun k => by rw [← hW1, World.frozen?_setCells]; exact hfz k
  have HCLR : Hid (∀ ty o d, o = (n - 1) * 2 → (Builtin.clear_ #[24] ty #[.slice (some ⟨g, o, none⟩) 1 d]).run Tryz.prog W1 = .ok (.tuple #[]) (W1.setCells g ((n - 1) * 2) [.string ⟨#[]⟩, .string ⟨#[]⟩])) := fun ty o d ho => by
    subst ho
    exact run_clear_fl W1 ty g _ d (fun j hj => hs1 _ (by omega)) (fun j _ => hf1 _)
  have HFIN : Hid (Sl (W1.setCells g ((n - 1) * 2) [.string ⟨#[]⟩, .string ⟨#[]⟩]) (W1.setCells g ((n - 1) * 2) [.string ⟨#[]⟩, .string ⟨#[]⟩]).heap.size 2 (some ⟨g, 0, none⟩) (n - 1) (flat flC (delL l i))) := by
    refine ⟨by rw [HINS.out, List.length_append, htl, hnews, hdl]; omega, fun _ => ⟨g, 0, rfl, ?_, fun j u hu => ?_⟩⟩
    · rw [size_setCells, ← hW1, size_setCells]; exact (Array.getElem?_eq_some_iff.1 hh).1
    · rw [HINS.out, hnews] at hu
      rw [Nat.zero_add]
      have hjl : j < (n - 1) * 2 := by
        have := (List.getElem?_eq_some_iff.1 hu).1
        rw [List.length_append, htl, hdl] at this; omega
      rw [World.cell?_setCells_out g _ _ _ _ (fun _ _ => by show j < _ ∨ _; omega), ← hW1]
      by_cases ha : j < i * 2
      · rw [List.getElem?_append_left (by omega), List.getElem?_take, if_pos ha] at hu
        rw [World.cell?_setCells_out g _ _ _ _ (fun _ _ => by show j < _ ∨ _; omega)]
        exact hcell j u hu
      · rw [List.getElem?_append_right (by omega), htl] at hu
        have hlt := (List.getElem?_eq_some_iff.1 hu).1
        have := World.cell?_setCells_in g news (0 + i * 2) w.drew (fun q hq => by rw [hdl] at hq; exact hsp _ (by omega)) (j - i * 2) hlt
        rw [show 0 + i * 2 + (j - i * 2) = j by omega] at this
        rw [this, ← hu]; exact (List.getElem?_eq_getElem _).symm
  have HBE : Hid (Below base w (W1.setCells g ((n - 1) * 2) [.string ⟨#[]⟩, .string ⟨#[]⟩])) := by
    rw [← hW1]
    exact below_setCells hb _ _ _ (below_setCells hb _ _ _ (Below.refl _ w).drew)
  have hW : Hid (w.drew.setCells g (0 + i * 2) news = W1) := hW1
  have hic : i ≤ c := by omega
  have hjc : i + 1 ≤ c := by omega
  have hc63 : c ≤ 9223372036854775807 := by unfold maxLen at h2; exact h2
  have hw1 : ((i : Int) + 1).toNat = i + 1 := by omega
  have hw2 : (0 : Int) ≤ (i : Int) + 1 := by omega
  have hw3 : (i : Int) + 1 ≤ (n : Int) := by omega
  have hw4 : ¬ ((i : Int) = (i : Int) + 1) := by omega
  have hw5 : (i : Int) ≤ (i : Int) + 1 := by omega
  have hw6 : (i : Int) + 1 ≤ (c : Int) := by omega
  clear hxs hh h4 hcell hsp hfz hs1 hf1 hW1 hnews hdl htl hii hz0 hz1 hz2'
  have hcl : (Builtin.clear_ #[24] 0 #[.slice (some ⟨g, (i + (n - (i + 1))) * 2, none⟩) (n - (i + (n - (i + 1)))) (c - (i + (n - (i + 1))))]).run Tryz.prog W1 = .ok (.tuple #[]) (W1.setCells g ((n - 1) * 2) [.string ⟨#[]⟩, .string ⟨#[]⟩]) := by
    have e1 : i + (n - (i + 1)) = n - 1 := by omega
    have e2 : n - (n - 1) = 1 := by omega
    rw [e1, e2]
    exact HCLR.out 0 _ _ rfl
  go_enter Tryz.func65, Tryz.ntmps65
  go_wp2_with fail
  go_region_law (refine step_append_room rfl (.tmp 22) (.tmp 25) 24 rfl 68 i0 2 Tryz.underlying24 HII.out HZ1.out g 0 i c (by simp [Act.eval, Act.put]) A (n - (i + 1)) (c - (i + 1)) news (by simp [Act.eval, Act.put]) s1.out hsrc.out s2.out (by omega) s3.out ?_; rw [hW.out])
  go_wp2
  go_ret
  have e1 : i + (n - (i + 1)) = n - 1 := by omega
  refine ⟨some ⟨g, 0, none⟩, c, ?_, by rw [hln]; exact HFIN.out, HBE.out, by omega, h2⟩
  rw [hln, ← e1]; rfl
end Go.Proofs.YtmdhlkkekidknaaGreatDoor

namespace Go.Proofs.YtmdhlkkekidknaaGreatDoor
open Go.RowKit Go.Shelf

theorem cmp_zero : ∀ a b : List UInt8, Lib.compareBytes a b = 0 ↔ a = b
  | [], [] => by simp [Lib.compareBytes]
  | [], _ :: _ => by simp [Lib.compareBytes]
  | _ :: _, [] => by simp [Lib.compareBytes]
  | a :: x, b :: y => by
    have ih := cmp_zero x y
    simp only [Lib.compareBytes]
    by_cases h1 : a < b
    · simp [h1]; intro e; subst e; exact absurd h1 (UInt8.lt_irrefl _)
    · by_cases h2 : b < a
      · simp [h1, h2]; intro e; subst e; exact absurd h2 (UInt8.lt_irrefl _)
      · have h3 : a = b := by
          apply UInt8.toNat_inj.1
          rw [UInt8.lt_iff_toNat_lt] at h1 h2
          omega
        subst h3
        simp [h1, ih]
def cmpS (a b : ByteArray) : Int := Lib.compareBytes a.data.toList b.data.toList
theorem cmpS_lt (a b : ByteArray) : cmpS a b < 0 ↔ less a b = true := by
  have h : decide (cmpS a b < 0) = less a b := cmp_less _ _
  rw [← h, decide_eq_true_eq]
theorem cmpS_zero (a b : ByteArray) : cmpS a b = 0 ↔ a = b := ⟨fun h => data_inj ((cmp_zero _ _).1 h), fun h => (cmp_zero _ _).2 (by rw [h])⟩
def atF (l : List Fl) (s : ByteArray) : Nat := l.countP (fun g => less g.1 s)
theorem atF_le (l : List Fl) (s : ByteArray) : atF l s ≤ l.length := List.countP_le_length
theorem atF_split {l : List Fl} (h : AscF l) (s : ByteArray) : l.take (atF l s) = l.filter (fun g => less g.1 s) ∧ l.drop (atF l s) = l.filter (fun g => !less g.1 s) := by
  induction l with
  | nil => exact ⟨rfl, rfl⟩
  | cons g l ih =>
    obtain ⟨h1, h2⟩ := ih h.tail
    unfold atF at *
    cases hl : less g.1 s with
    | true =>
      rw [List.countP_cons_of_pos (by simpa using hl), List.filter_cons_of_pos (by simpa using hl), List.filter_cons_of_neg (by rw [hl]; simp), List.take_succ_cons, List.drop_succ_cons, h1, h2]
      exact ⟨rfl, rfl⟩
    | false =>
      have hall : ∀ x ∈ g :: l, less x.1 s = false := fun x hx => by
        rcases List.mem_cons.1 hx with rfl | hx
        · exact hl
        · cases hb : less x.1 s with
          | false => rfl
          | true => have := lessB_trans (h.head hx) hb; rw [hl] at this; cases this
      have h0 : (g :: l).countP (fun g => less g.1 s) = 0 := by rw [List.countP_eq_zero]; intro x hx; simp [hall x hx]
      rw [h0, filter_none hall, filter_all (fun x hx => by rw [hall x hx]; rfl)]
      exact ⟨rfl, rfl⟩
theorem atF_below {l : List Fl} (h : AscF l) {s : ByteArray} {k : Nat} {g : Fl} (hg : l[k]? = some g) (hk : k < atF l s) : less g.1 s = true := by
  have h1 : g ∈ l.take (atF l s) := List.mem_of_getElem? (by rw [List.getElem?_take_of_lt hk]; exact hg)
  rw [(atF_split h s).1, List.mem_filter] at h1
  exact h1.2
theorem atF_above {l : List Fl} (h : AscF l) {s : ByteArray} {k : Nat} {g : Fl} (hg : l[k]? = some g) (hk : atF l s ≤ k) : less g.1 s = false := by
  have h1 : g ∈ l.drop (atF l s) := List.mem_of_getElem? (i := k - atF l s) (by rw [List.getElem?_drop]; rw [show atF l s + (k - atF l s) = k by omega]; exact hg)
  rw [(atF_split h s).2, List.mem_filter] at h1
  simpa using h1.2
theorem look_at {l : List Fl} (h : AscF l) {s : ByteArray} {g : Fl} (hg : l[atF l s]? = some g) : lookF9 l s = if g.1 = s then some g.2 else none := by
  have hn := asc_nodup h
  by_cases hs : g.1 = s
  · rw [if_pos hs, look9_some hn, ← hs]; exact List.mem_of_getElem? hg
  · rw [if_neg hs, look9_none]
    intro x hx hxs
    obtain ⟨k, hk⟩ := List.mem_iff_getElem?.1 hx
    rcases Nat.lt_or_ge k (atF l s) with h1 | h1
    · have := atF_below h hk h1
      rw [hxs, lessB_irrefl] at this; cases this
    · have h2 := atF_above h hg (Nat.le_refl _)
      rcases Nat.eq_or_lt_of_le h1 with h3 | h3
      · rw [← h3, hg] at hk; cases hk; exact hs hxs
      · have h4 : less g.1 x.1 = true := by
          obtain ⟨h5, h6⟩ := List.getElem?_eq_some_iff.1 hg
          obtain ⟨h7, h8⟩ := List.getElem?_eq_some_iff.1 hk
          have := List.pairwise_iff_getElem.1 h _ _ h5 h7 h3
          rw [h6, h8] at this; exact this
        rw [hxs, h2] at h4; cases h4
theorem look_end {l : List Fl} (h : AscF l) {s : ByteArray} (hg : l.length ≤ atF l s) : lookF9 l s = none := by
  rw [look9_none]
  intro x hx hxs
  obtain ⟨k, hk⟩ := List.mem_iff_getElem?.1 hx
  have := atF_below h hk (Nat.lt_of_lt_of_le (List.getElem?_eq_some_iff.1 hk).1 hg)
  rw [hxs, lessB_irrefl] at this; cases this
def TfE (l : List Fl) (s : ByteArray) (w : World) (e : Ending) (w' : World) : Prop := e = .returned (.tuple #[.int .i64 (atF l s : Nat), .bool (lookF9 l s).isSome]) ∧ Below w.heap.size w w'
set_option maxHeartbeats 1000000 in
theorem tfind1_any (a a1 s : ByteArray) (w : World) : Calls Tryz.prog 100 #[.agg #[.string a, .string a1], .string s] w fun e w' => e = .returned (.int .i64 (cmpS a s)) ∧ Below w.heap.size w w' := by
  have hcon := fun W' => Tryz.strings_Compare a s W'
  unfold cmpS
  generalize Lib.compareBytes a.data.toList s.data.toList = r at hcon ⊢
  have HC := Lib.hid hcon
  clear hcon
  go_enter Tryz.func100, Tryz.ntmps100
  go_wp2_with (go_at_call 60; refine (HC.out _).mono ?_; rintro e w' ⟨rfl, rfl⟩)
  go_ret
  exact ⟨rfl, (Below.refl _ w).alloc (Nat.le_refl _) _⟩
set_option maxRecDepth 100000 in
set_option maxHeartbeats 4000000 in
theorem bsf_any (A : Option Addr) (n c B : Nat) (l : List Fl) (s : ByteArray) (w : World) (h0 : Sl w B 2 A n (flat flC l)) (hB : B ≤ w.heap.size) (hn : n ≤ 1000000) (ha : AscF l) :
    Calls Tryz.prog 99 #[.slice A n c, .string s, .func (.func 100) #[] #[]] w (TfE l s w) := by
  have HL := Lib.hid (h0.len flC_len (by omega))
  have H0 := Lib.hid h0; have HA := Lib.hid ha
  clear h0 ha
  obtain ⟨m, hm⟩ : ∃ m, atF l s = m := ⟨_, rfl⟩
  have hmn : m ≤ n := by rw [← hm, ← HL.out]; exact atF_le _ _
  have HM := Lib.hid hm
  obtain ⟨q, hq⟩ : ∃ q, (lookF9 l s).isSome = q := ⟨_, rfl⟩
  have HQ := Lib.hid hq
  unfold TfE
  rw [hm, hq]
  clear hm hq
  go_enter Tryz.func99, Tryz.ntmps99
  go_wp2_with fail
  go_loopw [9, 10] (fun i j wr => ∃ a b : Nat, i = .int .i64 (a : Int) ∧ j = .int .i64 (b : Int) ∧ a ≤ m ∧ m ≤ b ∧ b ≤ n ∧ Hid (Below w.heap.size w wr)) (fun i j _ => (intOf j).toNat - (intOf i).toNat)
  case atStart => exact ⟨0, n, rfl, rfl, Nat.zero_le _, hmn, Nat.le_refl _, Below.refl _ _⟩
  case round =>
    obtain ⟨a, b, rfl, rfl, ham, hmb, hbn, hBel⟩ := hrel
    by_cases hlt : a < b
    · have hlz : (a : Int) < (b : Int) := by omega
      obtain ⟨h, hh⟩ : ∃ h, (a + b) / 2 = h := ⟨_, rfl⟩
      have hah : a ≤ h := by omega
      have hhb : h < b := by omega
      obtain ⟨bb, off, f, rfl, hbB, hx, y0, y1⟩ := (H0.out.below hBel.out hB).fl (k := h) (by omega)
      have HX := Lib.hid hx; clear hx
      obtain ⟨fp, fd⟩ := f
      simp only at y0 y1
      obtain ⟨z, hz⟩ : ∃ z, cmpS fp s = z := ⟨_, rfl⟩
      have HZ := Lib.hid hz
      have HC2 : Hid (∀ w, Calls Tryz.prog 100 #[.agg #[.string fp, .string fd], .string s] w fun e w' => e = .returned (.int .i64 z) ∧ Below w.heap.size w w') := fun w => by
        have := tfind1_any fp fd s w
        rw [hz] at this; exact this
      have hh' : ((a : Int) + (b : Int)) / 2 = (h : Int) := by omega
      have hhn : h < n := by omega
      have hhz : (h : Int) < (n : Int) := by omega
      clear hz
      by_cases hl : less fp s = true
      · have hzn : z < 0 := by rw [← HZ.out]; exact (cmpS_lt _ _).2 hl
        have hhm : h < m := by
          rcases Nat.lt_or_ge h m with h1 | h1
          · exact h1
          · have := atF_above HA.out HX.out (by rw [HM.out]; exact h1)
            simp only at this; rw [hl] at this; cases this
        clear hl
        go_wp2_with fail
        refine (HC2.out _).mono ?_
        rintro e w3 ⟨rfl, hb3⟩
        have HB3 : Hid (Below w.heap.size w w3) := hBel.out.trans (hb3.mono hBel.out.size)
        clear hb3
        go_wp2_with fail
        go_roundw
        case rel => exact ⟨h + 1, b, by go_num, rfl, hhm, hmb, hbn, HB3.out⟩
        case measure => simp [intOf]; omega
      · have hzn : ¬ z < 0 := by rw [← HZ.out]; exact fun h0 => hl ((cmpS_lt _ _).1 h0)
        have hhm : m ≤ h := by
          rcases Nat.lt_or_ge h m with h1 | h1
          · exact absurd (atF_below HA.out HX.out (by rw [HM.out]; exact h1)) hl
          · exact h1
        clear hl
        go_wp2_with fail
        refine (HC2.out _).mono ?_
        rintro e w3 ⟨rfl, hb3⟩
        have HB3 : Hid (Below w.heap.size w w3) := hBel.out.trans (hb3.mono hBel.out.size)
        clear hb3
        go_wp2_with fail
        go_roundw
        case rel => exact ⟨a, h, rfl, rfl, ham, hhm, by omega, HB3.out⟩
        case measure => simp [intOf]; omega
    · have hlz : ¬ (a : Int) < (b : Int) := by omega
      obtain rfl : a = m := by omega
      obtain rfl : b = a := by omega
      by_cases hbn' : b < n
      · obtain ⟨bb, off, f, rfl, hbB, hx, y0, y1⟩ := (H0.out.below hBel.out hB).fl (k := b) hbn'
        obtain ⟨fp, fd⟩ := f
        simp only at y0 y1
        have HF := Lib.hid (look_at HA.out (by rw [HM.out]; exact hx)); clear hx
        simp only at HF
        obtain ⟨z, hz⟩ : ∃ z, cmpS fp s = z := ⟨_, rfl⟩
        have HC2 : Hid (∀ w, Calls Tryz.prog 100 #[.agg #[.string fp, .string fd], .string s] w fun e w' => e = .returned (.int .i64 z) ∧ Below w.heap.size w w') := fun w => by
          have := tfind1_any fp fd s w
          rw [hz] at this; exact this
        have hzq : (z == 0) = q := by
          rw [← HQ.out, HF.out, ← hz]
          by_cases h1 : fp = s
          · rw [if_pos h1, (cmpS_zero _ _).2 h1]; rfl
          · rw [if_neg h1, beq_eq_false_iff_ne.2 (fun h2 => h1 ((cmpS_zero _ _).1 h2))]; rfl
        have hlz' : (b : Int) < (n : Int) := by omega
        clear hz
        go_wp2_with fail
        refine (HC2.out _).mono ?_
        rintro e w3 ⟨rfl, hb3⟩
        have HB3 : Hid (Below w.heap.size w w3) := hBel.out.trans (hb3.mono hBel.out.size)
        clear hb3
        go_wp2_with fail
        go_ret2
        exact ⟨rfl, HB3.out⟩
      · have hlz' : ¬ (b : Int) < (n : Int) := by omega
        have hq0 : q = false := by rw [← HQ.out, look_end HA.out (by rw [HM.out, HL.out]; omega)]; rfl
        subst hq0
        go_wp2_with fail
        go_ret2
        exact ⟨rfl, hBel.out⟩
set_option maxHeartbeats 1000000 in
theorem tfind_any (A : Option Addr) (n c B : Nat) (l : List Fl) (s : ByteArray) (w : World) (h0 : Sl w B 2 A n (flat flC l)) (hB : B ≤ w.heap.size) (hn : n ≤ 1000000) (ha : AscF l) :
    Calls Tryz.prog 49 #[.slice A n c, .string s] w (TfE l s w) := by
  have HC := Lib.hid (bsf_any A n c B l s w h0 hB hn ha)
  clear h0
  unfold TfE at HC ⊢
  go_enter Tryz.func49, Tryz.ntmps49
  go_wp2_with fail
  refine HC.out.mono ?_
  rintro e w2 ⟨rfl, hb⟩
  have HB2 := Lib.hid hb; clear hb
  go_wp2_with fail
  go_ret2
  exact ⟨rfl, HB2.out⟩
end Go.Proofs.YtmdhlkkekidknaaGreatDoor

namespace Go.Proofs.YtmdhlkkekidknaaGreatDoor
open Go.RowKit

theorem Sl.dgbox {w : World} {B n b : Nat} {t : TypeId} {A : Option Addr} {q : List Itm} {x y : Value} (h : Sl w B 3 A n (flat itC q)) (hk : Bk w b t #[x, y]) : ∀ a, 0 < n → A = some a → a.block ≠ b := by
  rintro a h0 ha rfl
  obtain ⟨b', off, i, rfl', _, _, _, _, h2⟩ := h.it h0
  rw [ha] at rfl'
  cases rfl'
  rw [hk.cell] at h2
  simp at h2
theorem res_pcp {fn : Func} {r c i : Tmp} (h : fn.results = #[.tmp r, .cell c 30, .tmp i]) {w : World} {a : Array Value} {b : Nat} {x y u v : Value} (hr : a[r]?.getD undef = u) (ha : a[c]?.getD undef = .pointer (some ⟨b, 0, none⟩)) (hk : Bk w b 30 #[x, y]) (hv : a[i]?.getD undef = v) :
    (results fn a).run Tryz.prog w = .ok (.tuple #[u, .agg #[x, y], v]) w := by
  obtain ⟨h0, h1, _, _⟩ := hk.two
  simp [results, h, hr, ha, hv, go_sem, h0, h1]
def PuE (A0 : Option Addr) (c0 : Nat) (p : List Itm) (o : Ob) (w : World) (e : Ending) (w' : World) : Prop :=
  ((∃ q A c, putP p o = some q ∧ e = .returned (.tuple #[.slice A q.length c, digV (dgO o), .int .i64 0]) ∧ Sl w' w'.heap.size 3 A q.length (flat itC q) ∧ q.length ≤ c ∧ c ≤ maxLen ∧ Ply w' w.heap.size A0 c0 p A c q) ∨ (putP p o = none ∧ e = .returned (.tuple #[.slice none 0 0, digV zD, .int .i64 16]))) ∧ Below w.heap.size w w'
set_option maxRecDepth 100000 in
set_option maxHeartbeats 4000000 in
theorem pput_any (A : Option Addr) (n c B : Nat) (p : List Itm) (o : Ob) (s : Osl) (w : World) (h0 : Sl w B 3 A n (flat itC p)) (hm : ObM w B o s) (hB : B ≤ w.heap.size) (hnc : n ≤ c) (hcm : c ≤ maxLen) (hn : n ≤ 900000) (ha : AscI p) (ho : OkO o) :
    Calls Tryz.prog 93 #[.slice A n c, obV o s] w (PuE A c p o w) := by
  have HO := Lib.hid ho; have HAS := Lib.hid ha; have HCM := Lib.hid hcm; have HNC := Lib.hid hnc; have HNN := Lib.hid hn
  obtain ⟨W, hW⟩ : ∃ W, (w.alloc (.cells (obC o s) 82)).alloc (.cells #[.int .u64 0, .int .u64 0] 30) = W := ⟨_, rfl⟩
  have HB0 : Hid (Below w.heap.size w W) := by rw [← hW]; exact ((Below.refl _ w).alloc (Nat.le_refl _) _).alloc (by simp) _
  have HK : Hid (Bk W w.heap.size 82 (obC o s)) := by rw [← hW]; exact (Bk.new w _ _).alloc _
  have HD : Hid (Bk W (w.heap.size + 1) 30 #[.int .u64 0, .int .u64 0]) := by
    rw [← hW]
    have := Bk.new (w.alloc (.cells (obC o s) 82)) 30 #[.int .u64 0, .int .u64 0]
    rw [World.size_alloc] at this; exact this
  have zW : w.heap.size + 2 = W.heap.size := by rw [← hW]; simp
  have HE := Lib.hid (oencode_any o s B W (hm.below HB0.out hB) (by omega) ho)
  have H0 := Lib.hid h0
  have hsz : (ofL (encO o)).size ≤ maxLen := by rw [size_ofL]; have := ho.len; unfold maxLen; omega
  have HOF := Lib.hid (fun w => of_any (ofL (encO o)) w hsz)
  have HDG : Hid (ofB (toL (ofL (encO o))) = dgO o) := by show _ = _; rw [toL_ofL]; rfl
  unfold OfEnd at HOF
  rw [HDG.out] at HOF
  have HPP : Hid (putP p o = insP p (dgO o, ofL (encO o))) := rfl
  unfold OecEnd at HE
  simp only [obV, obC] at HE hW HK ⊢
  obtain ⟨sb, hsb⟩ : ∃ sb, ofL (encO o) = sb := ⟨_, rfl⟩
  rw [hsb] at HE HOF HPP
  obtain ⟨⟨d1, d2⟩, hdd⟩ : ∃ d, dgO o = d := ⟨_, rfl⟩
  unfold PuE
  rw [hdd] at HOF HPP ⊢
  rw [HPP.out]
  simp only [digV] at HOF ⊢
  obtain ⟨c0, c1, c2, c3, c4, c5, c6, c7, c8⟩ := HK.out.nine
  have HW := Lib.hid hW
  clear h0 hm ho ha hcm hn hsb hdd HDG hsz hW hnc
  go_enter Tryz.func93, Tryz.ntmps93
  go_wp2_with fail
  rw [HW.out]
  go_wp2_with fail
  refine HE.out.mono ?_
  rintro e w2 ⟨rfl, hb⟩
  have HB2 : Hid (Below w.heap.size w w2) := HB0.out.trans (hb.mono HB0.out.size)
  have HD2 := Lib.hid (HD.out.below hb (by omega))
  have z2 : w.heap.size + 2 ≤ w2.heap.size := by have := hb.size; omega
  clear hb HE c0 c1 c2 c3 c4 c5 c6 c7 c8
  go_wp2_with fail
  refine (HOF.out _).mono ?_
  rintro e w3 ⟨rfl, hb⟩
  have HB3 : Hid (Below w.heap.size w w3) := HB2.out.trans (hb.mono HB2.out.size)
  have HD3 := Lib.hid (HD2.out.below hb (by omega))
  have z3 : w.heap.size + 2 ≤ w3.heap.size := by have := hb.size; omega
  obtain ⟨W3, hW3⟩ : ∃ W, w3.alloc (.cells #[.int .u64 d1, .int .u64 d2] 30) = W := ⟨_, rfl⟩
  have HBW : Hid (Below w3.heap.size w3 W3) := by rw [← hW3]; exact (Below.refl _ w3).alloc (Nat.le_refl _) _
  have HG3 : Hid (Bk W3 w3.heap.size 30 #[.int .u64 d1, .int .u64 d2]) := by rw [← hW3]; exact Bk.new w3 _ _
  have HD3' := Lib.hid (HD3.out.below HBW.out (by omega))
  have HB3' : Hid (Below w.heap.size w W3) := HB3.out.trans (HBW.out.mono HB3.out.size)
  have zW3 : w3.heap.size < W3.heap.size := HG3.out.lt
  have HI := Lib.hid (pinsert_any A n c B p ((d1, d2), sb) W3 (H0.out.below HB3'.out hB) (by omega) HNC.out HCM.out HNN.out HAS.out)
  unfold InpE at HI
  simp only [itV] at HI
  obtain ⟨x0, x1, _, _⟩ := HG3.out.two
  clear hb
  go_wp2_with fail
  refine HI.out.mono ?_
  rintro e w4 ⟨hq, hb⟩
  have HB4 : Hid (Below w.heap.size w w4) := HB3'.out.trans (hb.mono HB3'.out.size)
  have HD4 := Lib.hid (HD3'.out.below hb (by omega))
  have HG4 := Lib.hid (HG3.out.below hb zW3)
  have z4 : w3.heap.size < w4.heap.size := Nat.lt_of_lt_of_le zW3 hb.size
  have g0 := HD4.out.free 0; have g1 := HD4.out.free 1
  obtain ⟨y0, y1, _, _⟩ := HD4.out.two
  obtain ⟨x0, x1, _, _⟩ := HG4.out.two
  clear hb HI hW3
  rcases hq with ⟨q, A', c', h1, rfl, h2, h3, h4, h5⟩ | ⟨h1, rfl⟩
  · have HQ := Lib.hid h1; have HS := Lib.hid h2; have H3 := Lib.hid h3; have H4 := Lib.hid h4; have H5 := Lib.hid h5
    clear h1 h2 h3 h4 h5
    go_wp2_with fail
    go_region
    go_wp2_with fail
    refine bodyPost_ret (res_pcp Tryz.results93 rfl rfl ((HD4.out.set2 (.int .u64 d1) (.int .u64 d2)).drew) rfl) rfl ⟨.inl ⟨q, A', c', HQ.out, rfl, ?_, H3.out, H4.out, ?_⟩, (below_set2 HB4.out (by omega) _ _).drew⟩
    · have := HS.out.ne (b := w.heap.size + 1) (HS.out.dgbox HD4.out) (fun k hk => (Below.heap_setCell (w4.setCell ⟨w.heap.size + 1, 0, none⟩ (.int .u64 d1)) ⟨w.heap.size + 1, 1, none⟩ (.int .u64 d2) k hk).trans (Below.heap_setCell w4 ⟨w.heap.size + 1, 0, none⟩ (.int .u64 d1) k hk))
      simpa using this.drew
    · rcases H5.out with h | h
      · exact .inl h
      · exact .inr (ownsRow_bk (ownsRow_bk (ownsRow_low h (by omega)) HD4.out (by decide) 0 _) (HD4.out.set 0 _) (by decide) 1 _).drew
  · have HQ := Lib.hid h1
    clear h1
    go_wp2_with fail
    refine bodyPost_ret (res_pcp Tryz.results93 rfl rfl (HD4.out.set2 _ _) rfl) rfl ⟨.inr ⟨HQ.out, rfl⟩, below_set2 HB4.out (by omega) _ _⟩
end Go.Proofs.YtmdhlkkekidknaaGreatDoor
