/-
  Lemmas: tree.Load. tree.Diff: what its map holds. tree.find: slices.BinarySearchFunc over files. What a pool holds of a stored list of files: Std. Storing brings it, a visit finds it, storing again finds it there; in plain Lean. What a visit finds is stored there: from a visit without an error to Std; in plain Lean. Reading one file of what is stored; how many objects a changed file brings; in plain Lean. Check's answer and valid files; what comes of setting, removing, and of changes; in plain Lean. tree.checkChange.
-/
import Derived.Test.YtmdhlkkekidknaaGreatDoorV12
import Derived.Test.YtmdhlkkekidknaaGreatDoorV10
import Derived.Test.YtmdhlkkekidknaaGreatDoorV11
import Derived.Test.YtmdhlkkekidknaaGreatDoorV9

namespace Go.Proofs.YtmdhlkkekidknaaGreatDoor
open Go.RowKit Go.Shelf
attribute [local go_sem] Oper.semAt_some

theorem vok_split : ∀ (l1 l2 : List Fl) (a b : List Vd), (∀ x r, a = x :: r → x.2 ≠ 0) → (∀ x r, b = x :: r → x.2 ≠ 0) → l1.map vok ++ a = l2.map vok ++ b → l1 = l2 ∧ a = b
  | [], [], a, b, _, _, h => ⟨rfl, h⟩
  | [], f :: l2, a, b, ha, _, h => absurd rfl (ha (vok f) (l2.map vok ++ b) (by simpa using h))
  | f :: l1, [], a, b, _, hb, h => absurd rfl (hb (vok f) (l1.map vok ++ a) (by simpa using h.symm))
  | f :: l1, g :: l2, a, b, ha, hb, h => by
    simp only [List.map_cons, List.cons_append, List.cons.injEq] at h
    obtain ⟨h1, h2⟩ := vok_split l1 l2 a b ha hb h.2
    have h3 : f = g := congrArg Prod.fst h.1
    exact ⟨by rw [h3, h1], h2⟩
theorem vok_len : ∀ (l1 l2 : List Fl) (a b : List Vd), (∀ x r, b = x :: r → x.2 ≠ 0) → l1.map vok ++ a = l2.map vok ++ b → l1.length ≤ l2.length
  | [], _, _, _, _, _ => Nat.zero_le _
  | f :: l1, [], a, b, hb, h => absurd rfl (hb (vok f) (l1.map vok ++ a) (by simpa using h.symm))
  | f :: l1, g :: l2, a, b, hb, h => by
    simp only [List.map_cons, List.cons_append, List.cons.injEq] at h
    have := vok_len l1 l2 a b hb h.2
    simp only [List.length_cons]; omega
theorem vsT_head (z : Int) : ∀ x r, vsT z = x :: r → x.2 ≠ 0 := by
  intro x r h
  unfold vsT at h
  split at h
  · cases h
  · rename_i hz
    cases h; exact hz
theorem pf_err {fs : List Fl} {x : Vd} {t : List Vd} {r : List Fl × Int} (h : fs.map vok ++ [x] ++ t = vsL r) (hx : x.2 ≠ 0) : r.1 = fs ∧ r.2 = x.2 ∧ r.2 ≠ 0 := by
  unfold vsL at h
  rw [List.append_assoc] at h
  obtain ⟨h1, h2⟩ := vok_split fs r.1 ([x] ++ t) (vsT r.2) (fun y q e => by simp at e; rw [← e.1]; exact hx) (vsT_head _) h
  unfold vsT at h2
  split at h2
  · cases h2
  · rename_i hz
    simp at h2
    refine ⟨h1.symm, ?_, hz⟩
    rw [h2.1]
theorem pf_len {fs : List Fl} {x : Vd} {t : List Vd} {r : List Fl × Int} (h : fs.map vok ++ [x] ++ t = vsL r) (hx : x.2 = 0) : fs.length + 1 ≤ r.1.length := by
  unfold vsL at h
  have hv : x = vok x.1 := Prod.ext rfl hx
  have h2 : (fs ++ [x.1]).map vok ++ t = r.1.map vok ++ vsT r.2 := by rw [← h, List.map_append, List.map_cons, List.map_nil, ← hv]
  have := vok_len _ _ _ _ (vsT_head _) h2
  simpa using this
theorem pf_done {fs : List Fl} {r : List Fl × Int} (h : fs.map vok = vsL r) : r.2 = 0 ∧ fs = r.1 := by
  unfold vsL at h
  obtain ⟨h1, h2⟩ := vok_split fs r.1 [] (vsT r.2) (fun y q e => by cases e) (vsT_head _) (by simpa using h)
  unfold vsT at h2
  split at h2
  · rename_i hz; exact ⟨hz, h1⟩
  · cases h2
theorem res_cc {fn : Func} {c1 c2 : Tmp} (h : fn.results = #[.cell c1 24, .cell c2 31]) {w : World} {a : Array Value} {b1 b2 : Nat} {A : Option Addr} {n c : Nat} {z : Int} (h1 : a[c1]?.getD undef = .pointer (some ⟨b1, 0, none⟩)) (h2 : a[c2]?.getD undef = .pointer (some ⟨b2, 0, none⟩)) (k1 : Bk w b1 24 #[.slice A n c]) (k2 : Bk w b2 31 #[.int .i64 z]) :
    (results fn a).run Tryz.prog w = .ok (.tuple #[.slice A n c, .int .i64 z]) w := by
  have c1' := k1.cell 0; have c2' := k2.cell 0
  simp at c1' c2'
  simp [results, h, h1, h2, go_sem, c1', c2']
def LdEE (p : List Itm) (d : Dig) (w : World) (e : Ending) (w' : World) : Prop :=
  ((∃ fs A c, LdSeq p d fs ∧ e = .returned (.tuple #[.slice A fs.length c, .int .i64 0]) ∧ w'.ownsRow w.heap.size 68 2 (.slice A fs.length c) fs.length (flat flC fs)) ∨ (∃ err, LodE p d err ∧ err ≠ 0 ∧ e = .returned (.tuple #[.slice none 0 0, .int .i64 err]))) ∧ Below w.heap.size w w'
structure LdI (s0 hz : Nat) (w : World) (pre : List Vd) (fs : List Fl) (Aq : Option Addr) (cq : Nat) (W : World) : Prop where
  pre : pre = fs.map vok
  few : fs.length ≤ 200
  r1 : Bk W (s0 + 1) 24 #[.slice none 0 0]
  r2 : Bk W (s0 + 1 + 1) 31 #[.int .i64 0]
  l : Bk W (s0 + 1 + 1 + 1) 24 #[.slice Aq fs.length cq]
  own : W.ownsRow hz 68 2 (.slice Aq fs.length cq) fs.length (flat flC fs)
  b : Below s0 w W
structure LdX (s0 : Nat) (w : World) (p : List Itm) (d : Dig) (err : Int) (W : World) : Prop where
  r1 : Bk W (s0 + 1) 24 #[.slice none 0 0]
  r2 : Bk W (s0 + 1 + 1) 31 #[.int .i64 err]
  lod : LodE p d err
  nz : err ≠ 0
  b : Below s0 w W
section
variable {s0 hz : Nat} {w W W' : World} {pre : List Vd} {fs : List Fl} {Aq : Option Addr} {cq : Nat} {p : List Itm} {d : Dig} {err : Int}
theorem LdI.below (h : LdI s0 hz w pre fs Aq cq W) (hb : Below W.heap.size W W') : LdI s0 hz w pre fs Aq cq W' :=
  ⟨h.pre, h.few, h.r1.below hb h.r1.lt, h.r2.below hb h.r2.lt, h.l.below hb h.l.lt, ownsRow_upon h.own hb, h.b.trans (hb.mono (by have := h.r2.lt; omega))⟩
theorem LdI.grown {row : Option Nat} (h : LdI s0 hz w pre fs Aq cq W) (hg : W.grownBy W' row) (h1 : some (s0 + 1) ≠ row) (h2 : some (s0 + 1 + 1) ≠ row) (h3 : some (s0 + 1 + 1 + 1) ≠ row) (h4 : (Value.slice Aq fs.length cq).ownBlock = none ∨ (Value.slice Aq fs.length cq).ownBlock ≠ row) (h5 : ∀ k, row = some k → s0 ≤ k) : LdI s0 hz w pre fs Aq cq W' :=
  ⟨h.pre, h.few, h.r1.grown hg h1, h.r2.grown hg h2, h.l.grown hg h3, h.own.kept hg h4, h.b.grown hg (by have := h.r2.lt; omega) h5⟩
theorem LdX.grown {row : Option Nat} (h : LdX s0 w p d err W) (hg : W.grownBy W' row) (h1 : some (s0 + 1) ≠ row) (h2 : some (s0 + 1 + 1) ≠ row) (h5 : ∀ k, row = some k → s0 ≤ k) : LdX s0 w p d err W' :=
  ⟨h.r1.grown hg h1, h.r2.grown hg h2, h.lod, h.nz, h.b.grown hg (by have := h.r2.lt; omega) h5⟩
end
theorem infoFil2 : (Tryz.prog.info? 68).map (fun i => (i.zero, i.size, i.bytes)) = some (some (.agg #[.string ⟨#[]⟩, .string ⟨#[]⟩]), 2, 32) := by kernel_rfl
theorem Bk.one_set {w : World} {b : Nat} {t : TypeId} {x : Value} (h : Bk w b t #[x]) (y : Value) : Bk (w.setCell ⟨b, 0, none⟩ y) b t #[y] := by
  have := h.set 0 y
  simpa using this
theorem LdX.drew {s0 : Nat} {w W : World} {p : List Itm} {d : Dig} {err : Int} (h : LdX s0 w p d err W) : LdX s0 w p d err W.drew := ⟨h.r1, h.r2, h.lod, h.nz, h.b.drew⟩
theorem ldx_ret {s0 : Nat} {w W : World} {p : List Itm} {d : Dig} {err : Int} (r1 : Bk W (s0 + 1) 24 #[.slice none 0 0]) (r2 : Bk W (s0 + 1 + 1) 31 #[.int .i64 0]) (b : Below s0 w W) (he : LodE p d err) (h0 : err ≠ 0) :
    LdX s0 w p d err ((W.setCell ⟨s0 + 1, 0, none⟩ (.slice none 0 0)).setCell ⟨s0 + 1 + 1, 0, none⟩ (.int .i64 err)) ∧ LdX s0 w p d err ((W.setCell ⟨s0 + 1 + 1, 0, none⟩ (.int .i64 err)).setCell ⟨s0 + 1, 0, none⟩ (.slice none 0 0)) :=
  ⟨⟨(r1.one_set _).far (p := ⟨s0 + 1 + 1, 0, none⟩) (by show s0 + 1 ≠ s0 + 1 + 1; omega) _, (r2.far (p := ⟨s0 + 1, 0, none⟩) (by show s0 + 1 + 1 ≠ s0 + 1; omega) _).one_set _, he, h0, (b.setCell (p := ⟨s0 + 1, 0, none⟩) (by show s0 ≤ s0 + 1; omega) _).setCell (p := ⟨s0 + 1 + 1, 0, none⟩) (by show s0 ≤ s0 + 1 + 1; omega) _⟩,
   ⟨(r1.far (p := ⟨s0 + 1 + 1, 0, none⟩) (by show s0 + 1 ≠ s0 + 1 + 1; omega) _).one_set _, (r2.one_set _).far (p := ⟨s0 + 1, 0, none⟩) (by show s0 + 1 + 1 ≠ s0 + 1; omega) _, he, h0, (b.setCell (p := ⟨s0 + 1 + 1, 0, none⟩) (by show s0 ≤ s0 + 1 + 1; omega) _).setCell (p := ⟨s0 + 1, 0, none⟩) (by show s0 ≤ s0 + 1; omega) _⟩⟩
theorem rec2_two {D : Nat} (W : World) {a b : Addr} (u v : Value) (ha : a.block < D) (hb : b.block < D) : Rec2 D W ((W.setCell a u).setCell b v) :=
  ⟨(Below.heap_setCell _ _ _ _ (by omega)).trans (Below.heap_setCell _ _ _ _ (by omega)), (Below.heap_setCell _ _ _ _ (by omega)).trans (Below.heap_setCell _ _ _ _ (by omega))⟩
structure LdS (s0 hz : Nat) (w W : World) (fs : List Fl) (f : Fl) (A4 : Option Addr) (c4 : Nat) (W5 : World) : Prop where
  r1 : Bk W5 (s0 + 1) 24 #[.slice none 0 0]
  r2 : Bk W5 (s0 + 1 + 1) 31 #[.int .i64 0]
  l : Bk W5 (s0 + 1 + 1 + 1) 24 #[.slice A4 (fs.length + 1) c4]
  own : W5.ownsRow hz 68 2 (.slice A4 (fs.length + 1) c4) (fs.length + 1) (flat flC (fs ++ [f]))
  b : Below s0 w W5
  kp : KpV s0 hz W W5
  rc : ∀ k, k < hz → k ≠ s0 + 1 + 1 + 1 → k < W.heap.size → W5.heap[k]? = W.heap[k]?
theorem LdI.add {s0 hz : Nat} {w W w4 : World} {pre : List Vd} {fs : List Fl} {Aq : Option Addr} {cq : Nat} (h : LdI s0 hz w pre fs Aq cq W) (hs : s0 + 4 ≤ hz) {f : Fl} {o : Obj} {A4 : Option Addr} {c4 : Nat}
    (ho : w4.ownsRow hz 68 2 (.slice A4 (fs.length + 1) c4) (fs.length + 1) (flat flC fs ++ flC f)) (hg : (W.alloc o).grownBy w4 (Value.slice Aq fs.length cq).ownBlock) :
    LdS s0 hz w W fs f A4 c4 (w4.setCell ⟨s0 + 1 + 1 + 1, 0, none⟩ (.slice A4 (fs.length + 1) c4)) ∧ w4.cell? ⟨s0 + 1 + 1 + 1, 0, none⟩ = some (.slice Aq fs.length cq) ∧ w4.frozen? ⟨s0 + 1 + 1 + 1, 0, none⟩ = false := by
  have hr : ∀ k, (Value.slice Aq fs.length cq).ownBlock = some k → hz ≤ k ∧ ∃ cur, W.heap[k]? = some (.cells cur 68 (0, 0)) := fun k hk => own_row h.own hk
  have hb : ∀ k, k < W.heap.size → (Value.slice Aq fs.length cq).ownBlock ≠ some k → w4.heap[k]? = W.heap[k]? := fun k hk hn => (hg.block k (by simp; omega) (fun e => hn e.symm)).trans (Below.heap_alloc W o k hk)
  have hlow : ∀ k, k < hz → (Value.slice Aq fs.length cq).ownBlock ≠ some k := fun k hk e => by have := (hr k e).1; omega
  have l1 : Bk w4 (s0 + 1) 24 #[.slice none 0 0] := (hb _ h.r1.lt (hlow _ (by omega))).trans h.r1
  have l2 : Bk w4 (s0 + 1 + 1) 31 #[.int .i64 0] := (hb _ h.r2.lt (hlow _ (by omega))).trans h.r2
  have l3 : Bk w4 (s0 + 1 + 1 + 1) 24 #[.slice Aq fs.length cq] := (hb _ h.l.lt (hlow _ (by omega))).trans h.l
  have hB4 : Below s0 w w4 := (h.b.alloc (by have := h.l.lt; omega) o).grown hg (by have := h.l.lt; simp; omega) (fun k hk => by have := (hr k hk).1; omega)
  refine ⟨⟨l1.far (p := ⟨s0 + 1 + 1 + 1, 0, none⟩) (by show s0 + 1 ≠ s0 + 1 + 1 + 1; omega) _, l2.far (p := ⟨s0 + 1 + 1 + 1, 0, none⟩) (by show s0 + 1 + 1 ≠ s0 + 1 + 1 + 1; omega) _, l3.one_set _, ?_, hB4.setCell (p := ⟨s0 + 1 + 1 + 1, 0, none⟩) (by show s0 ≤ s0 + 1 + 1 + 1; omega) _, ?_, fun k hk hne hkW => (Below.heap_setCell _ _ _ _ hne).trans (hb k hkW (hlow k hk))⟩, by have := l3.cell 0; simpa using this, l3.free 0⟩
  · have e : flat flC (fs ++ [f]) = flat flC fs ++ flC f := by rw [flat_append]; simp [flat]
    rw [e]
    exact ownsRow_setCell_below ho (by show s0 + 1 + 1 + 1 < hz; omega) _
  · refine ⟨by have := hg.size; simp at this ⊢; omega, fun k hk hc => ?_⟩
    have hne : k ≠ s0 + 1 + 1 + 1 := by omega
    refine (Below.heap_setCell _ _ _ _ hne).trans (hb k hk (fun e => ?_))
    obtain ⟨h1, cur, h2⟩ := hr k e
    rcases hc with h3 | ⟨_, h3⟩
    · omega
    · rw [h2] at h3; exact h3 rfl
set_option maxRecDepth 100000 in
set_option maxHeartbeats 8000000 in
theorem tload_any (A : Option Addr) (np cp B : Nat) (p : List Itm) (d : Dig) (w : World) (h0 : Sl w B 3 A np (flat itC p)) (hB : B ≤ w.heap.size) (hn : np ≤ 1000000) (hp : PlOk p) :
    Calls Tryz.prog 23 #[.slice A np cp, digV d] w (LdEE p d w) := by
  refine (callsIn_wide (n := 6)).1 ?_
  have hf1 : Fence.wide.fn 107 := trivial
  have HP := Lib.hid hp; have H0 := Lib.hid h0
  obtain ⟨W1, hW1⟩ : ∃ W1, (((w.alloc (.cells #[.int .u64 d.1, .int .u64 d.2] 30)).alloc (.cells #[.slice none 0 0] 24)).alloc (.cells #[.int .i64 0] 31)).alloc (.cells #[.slice none 0 0] 24) = W1 := ⟨_, rfl⟩
  have z1 : W1.heap.size = w.heap.size + 4 := by rw [← hW1]; simp
  have hb1 : Below w.heap.size w W1 := by rw [← hW1]; exact ((((Below.refl _ w).alloc (Nat.le_refl _) _).alloc (by simp) _).alloc (by simp; omega) _).alloc (by simp; omega) _
  have k1 : Bk W1 (w.heap.size + 1) 24 #[.slice none 0 0] := by
    rw [← hW1]
    have := Bk.new (w.alloc (.cells #[.int .u64 d.1, .int .u64 d.2] 30)) 24 #[.slice none 0 0]
    rw [World.size_alloc] at this; exact (this.alloc _).alloc _
  have k2 : Bk W1 (w.heap.size + 2) 31 #[.int .i64 0] := by
    rw [← hW1]
    have := Bk.new ((w.alloc (.cells #[.int .u64 d.1, .int .u64 d.2] 30)).alloc (.cells #[.slice none 0 0] 24)) 31 #[.int .i64 0]
    rw [World.size_alloc, World.size_alloc] at this; exact this.alloc _
  have k3 : Bk W1 (w.heap.size + 3) 24 #[.slice none 0 0] := by
    rw [← hW1]
    have := Bk.new (((w.alloc (.cells #[.int .u64 d.1, .int .u64 d.2] 30)).alloc (.cells #[.slice none 0 0] 24)).alloc (.cells #[.int .i64 0] 31)) 24 #[.slice none 0 0]
    rw [World.size_alloc, World.size_alloc, World.size_alloc] at this; exact this
  have HA := Lib.hid (tall_any A np cp d W1)
  obtain ⟨d1, d2⟩ := d
  have HW1 := Lib.hid hW1
  simp only [digV] at HA HW1 ⊢
  clear hW1 h0 hp
  refine callsIn_of_wp_marks Tryz.func23 rfl trivial ?_ rfl
  simp only [Tryz.ntmps23, List.size_toArray, List.length_cons, List.length_nil, Nat.reduceAdd, Nat.reduceSub, Array.replicate_succ, Array.replicate_zero, List.push_toArray, List.append_toArray, List.nil_append, List.cons_append]
  gi_wp2_with fail
  rw [HW1.out]
  gi_wp2_with fail
  refine ⟨trivial, (callsIn_wide.2 HA.out).mono ?_⟩
  rintro e W2 ⟨rfl, hw2⟩
  have z2 : W2.heap.size = w.heap.size + 6 := by rw [hw2]; simp; omega
  have hb2 : Below W1.heap.size W1 W2 := by rw [hw2]; exact ((Below.refl _ W1).alloc (Nat.le_refl _) _).alloc (by simp) _
  have kp : Bk W2 (w.heap.size + 4) 23 #[.slice A np cp] := by rw [hw2, ← z1]; exact (Bk.new W1 _ _).alloc _
  have kd : Bk W2 (w.heap.size + 4 + 1) 30 #[.int .u64 d1, .int .u64 d2] := by
    rw [hw2]
    have := Bk.new (W1.alloc (.cells #[.slice A np cp] 23)) 30 #[.int .u64 d1, .int .u64 d2]
    rw [World.size_alloc, z1] at this; exact this
  have hI0 : LdI w.heap.size (W2.heap.size + 2) w [] [] none 0 W2 := ⟨rfl, Nat.zero_le _, k1.below hb2 (by omega), k2.below hb2 (by omega), k3.below hb2 (by omega), World.ownsRow_nil _ _ _ _, hb1.trans (hb2.mono (by omega))⟩
  have hs2 := H0.out.below (hb1.trans (hb2.mono (by omega))) hB
  have hst := tall1_st 5 w.heap.size (W2.heap.size + 2) B np cp (w.heap.size + 4) (w.heap.size + 4 + 1) A p (d1, d2) W2 HP.out hs2 hB (by omega) (by omega) hn kp kd
  rw [z1]
  clear HA k1 k2 k3 hb1 hb2 kp kd hs2 HW1 hw2
  gi_wp2
  refine wpIn_rangeTA (α := Vd) (F := Fence.wide) (n := 6) rfl (by omega) (gf := 107) (lb := #[.pointer (some ⟨w.heap.size + 4, 0, none⟩), .pointer (some ⟨w.heap.size + 4 + 1, 0, none⟩)]) rfl trivial (enters_of Tryz.func107 (by kernel_rfl) rfl)
    hst KpV.trans (fun W l r o' hl hlr => ⟨by simp, fun k _ hk => World.putObj_heap_other (by omega)⟩) (fun A C h hA => ⟨h.block _ (by omega), h.block _ (by omega)⟩) (Below.refl _ _) (fun _ => rfl)
    (fun pre W => ∃ fs Aq cq, LdI w.heap.size (W2.heap.size + 2) w pre fs Aq cq W)
    (fun c _ W => c = .ret ∧ ∃ err, LdX w.heap.size w p (d1, d2) err W)
    ?hI ?hIx ?hIS ⟨[], none, 0, hI0⟩
    (fun x b W => W2.heap.size + 2 ≤ b ∧ Bk W b 88 #[.string x.1.1, .string x.1.2, .int .i64 x.2])
    ?hAp (fun x b => { tmps := #[.slice A np cp, .agg #[.int .u64 d1, .int .u64 d2], undef, .pointer (some ⟨w.heap.size, 0, none⟩), .pointer (some ⟨w.heap.size + 1, 0, none⟩), .pointer (some ⟨w.heap.size + 1 + 1, 0, none⟩), .pointer (some ⟨w.heap.size + 1 + 1 + 1, 0, none⟩), .pointer (some ⟨b, 0, none⟩), .slice A np cp, .agg #[.int .u64 d1, .int .u64 d2], .func (.func 107) #[] #[.pointer (some ⟨w.heap.size + 4, 0, none⟩), .pointer (some ⟨w.heap.size + 4 + 1, 0, none⟩)], .agg #[.string x.1.1, .string x.1.2, .int .i64 x.2], undef, undef, undef, undef, undef, undef, undef, undef, undef, undef, undef, undef, undef, undef, undef, undef], defers := [] }) ?assign ?body ?done ?stop
  case hAp =>
    rintro x b W l r o hl ⟨hb, hw⟩
    refine ⟨hb, (World.putObj_heap_other (fun e => ?_)).trans hw⟩
    subst e
    have : W.heap[b]? = _ := hw
    rw [hl] at this; cases this
  case hI =>
    rintro pre A C row ⟨fs, Aq, cq, h⟩ hg hr
    refine ⟨fs, Aq, cq, h.grown hg (fun e => ?_) (fun e => ?_) (fun e => ?_) ?_ (fun k e => ?_)⟩
    · have := (hr _ e.symm).1; omega
    · have := (hr _ e.symm).1; omega
    · have := (hr _ e.symm).1; omega
    · cases hv : (Value.slice Aq fs.length cq).ownBlock with
      | none => exact .inl rfl
      | some k =>
        refine .inr fun e => ?_
        obtain ⟨_, cur, hcur⟩ := own_row h.own hv
        obtain ⟨_, o, ho, hc⟩ := hr _ e.symm
        rw [hcur] at ho; cases ho; cases hc
    · have := (hr _ e).1; omega
  case hIx =>
    rintro c pre A C row ⟨hc, err, h⟩ hg hr
    refine ⟨hc, err, h.grown hg (fun e => ?_) (fun e => ?_) (fun k e => ?_)⟩
    · have := (hr _ e.symm).1; omega
    · have := (hr _ e.symm).1; omega
    · have := (hr _ e).1; omega
  case hIS =>
    rintro pre A C ⟨fs, Aq, cq, h⟩ hb
    exact ⟨fs, Aq, cq, h.below hb⟩
  case assign =>
    intro l pre x W K hWz hI hK
    obtain ⟨fs, Aq, cq, h⟩ := hI
    have HKK := Lib.hid hK
    have HI := Lib.hid h
    clear hK h hst hI0
    obtain ⟨⟨x1, x2⟩, x3⟩ := x
    simp only [vdA]
    gi_wp2
    have hb : Below W.heap.size W (W.alloc (.cells #[.string x1, .string x2, .int .i64 x3] 88)) := (Below.refl _ W).alloc (Nat.le_refl _) _
    exact HKK.out W.heap.size _ ⟨hb.block _ (by omega), hb.block _ (by omega)⟩ (KpV.of_below hb) ⟨fs, Aq, cq, HI.out.below hb⟩ ⟨hWz, Bk.new W _ _⟩
  case body =>
    rintro l pre x b W ⟨t, ht⟩ hWz ⟨fs, Aq, cq, h⟩ ⟨hbz, hk⟩
    obtain ⟨⟨x1, x2⟩, x3⟩ := x
    simp only at hk
    have HT : Hid (fs.map vok ++ [((x1, x2), x3)] ++ t = vsL (visW p (d1, d2))) := by show _ = _; rw [← h.pre]; exact ht
    have HI := Lib.hid h; have HK := Lib.hid hk
    obtain ⟨x0', x1', x2'⟩ := hk.three
    clear h hk ht hst hI0
    have c1 := HI.out.r1.cell 0; have c2 := HI.out.r2.cell 0; have c3 := HI.out.l.cell 0
    have f1 := HI.out.r1.free 0; have f2 := HI.out.r2.free 0; have f3 := HI.out.l.free 0
    simp at c1 c2 c3
    by_cases h3 : x3 = 0
    · have t1 : (x3 != 0) = false := by rw [h3]; rfl
      have HL := Lib.hid (pf_len HT.out h3)
      have hfew := HI.out.few
      have H3 := Lib.hid h3
      obtain ⟨i0, hi, hz0, hz1, hz2⟩ := info_parts infoFil2
      have Hi := Lib.hid hi; have Hz0 := Lib.hid hz0; have Hz1 := Lib.hid hz1; have Hz2 := Lib.hid hz2
      clear hi hz0 hz1 hz2 h3
      gi_wp2_with (gi_at_builtin; refine halt_ ?_)
      refine unhalt ?_
      refine wpListIn_append_sl (base := W2.heap.size + 2) (size := 2) rfl (.tmp 17) (.tmp 20) 24 rfl 68 i0 _ 32 Tryz.underlying24 Hi.out Hz0.out Hz1.out Hz2.out rfl (by decide) (.slice Aq fs.length cq) fs.length (flat flC fs) rfl ?own (W.heap.size + 1) _ 1 _ (flC (x1, x2)) rfl ?nw (by simp [flC, Value.oneCell']) ?l1 ?l2 ?l3 ?_
      case own => exact ownsRow_upon HI.out.own ((Below.refl _ W).alloc (Nat.le_refl _) _)
      case nw =>
        have := Sl.of_bk (n := 1) (size := 2) (Bk.new W 68 #[.string x1, .string x2]) rfl
        rw [World.size_alloc] at this; exact this
      case l1 => unfold maxLen; omega
      case l2 => omega
      case l3 => simp; omega
      intro A4 c4 w4 ho4 hg4 hc41 hc42
      obtain ⟨hls, c4', f4'⟩ := HI.out.add (f := (x1, x2)) (by omega) ho4 hg4
      have HLS := Lib.hid hls
      have HPR := Lib.hid HI.out.pre
      clear ho4 hg4 c1 c2 c3 f1 f2 f3 x0' x1' x2' hls
      by_cases hbig : fs.length = 200
      · have hbz : (200 : Int) < ((fs.length : Int) + 1) := by omega
        have HE : Hid (LodE p (d1, d2) 4) := .inl ⟨by have := HL.out; omega, rfl⟩
        have c1 := HLS.out.r1.cell 0; have c2 := HLS.out.r2.cell 0
        have f1 := HLS.out.r1.free 0; have f2 := HLS.out.r2.free 0
        simp only [List.getElem?_toArray, List.getElem?_cons_zero] at c1 c2
        clear hbig
        gi_wp2
        have hr := HLS.out.rc
        have hrz := HI.out.l.lt
        refine ⟨⟨((rec2_two (D := W2.heap.size) _ _ _ (by show w.heap.size + 1 < _; omega) (by show w.heap.size + 1 + 1 < _; omega)).1).trans (hr _ (by omega) (by omega) (by omega)), ((rec2_two (D := W2.heap.size) _ _ _ (by show w.heap.size + 1 < _; omega) (by show w.heap.size + 1 + 1 < _; omega)).2).trans (hr _ (by omega) (by omega) (by omega))⟩, rfl, 4, (ldx_ret HLS.out.r1 HLS.out.r2 HLS.out.b HE.out (by decide)).1⟩
      · have hbz : ¬ (200 : Int) < ((fs.length : Int) + 1) := by omega
        have hlen : fs.length + 1 ≤ 200 := by omega
        clear hbig
        gi_wp2
        have hr := HLS.out.rc
        refine ⟨⟨hr _ (by omega) (by omega) (by omega), hr _ (by omega) (by omega) (by omega)⟩, (by have := HLS.out.kp; rw [z2] at this; exact this), fs ++ [(x1, x2)], A4, c4, ?_, ?_, HLS.out.r1, HLS.out.r2, ?_, ?_, HLS.out.b⟩
        · rw [HPR.out, List.map_append, H3.out]; rfl
        · simpa using hlen
        · rw [List.length_append]; exact HLS.out.l
        · rw [List.length_append]; have := HLS.out.own; rw [z2] at this; exact this
    · have t1 : (x3 != 0) = true := by rw [bne_iff_ne]; exact h3
      obtain ⟨e1, e2, e3⟩ := pf_err HT.out h3
      have HE : Hid (LodE p (d1, d2) x3) := .inr ⟨by rw [e1]; exact HI.out.few, e3, by rw [e2]⟩
      have H3 := Lib.hid h3
      clear e1 e2 e3 h3 c3 f3
      gi_wp2
      gi_region
      all_goals
        gi_wp2
        first
          | exact ⟨rec2_two W _ _ (by show w.heap.size + 1 < _; omega) (by show w.heap.size + 1 + 1 < _; omega), rfl, x3, (ldx_ret HI.out.r1 HI.out.r2 HI.out.b HE.out H3.out).1.drew⟩
          | exact ⟨rec2_two W _ _ (by show w.heap.size + 1 + 1 < _; omega) (by show w.heap.size + 1 < _; omega), rfl, x3, (ldx_ret HI.out.r1 HI.out.r2 HI.out.b HE.out H3.out).2.drew⟩
  case done =>
    rintro D xs W hD hS ⟨fs, Aq, cq, h⟩ hK
    obtain ⟨hf1, hf2⟩ := pf_done (fs := fs) (by rw [← h.pre]; exact hS)
    have hfew := h.few
    have HSO := Lib.hid (sortFil_any (W2.heap.size + 2) fs.length cq Aq fs W h.own (by omega))
    have HSQ : Hid (∀ us : List Fl, us.Perm fs → SrtF us → LdSeq p (d1, d2) us) := fun us hp hs => by
      have hpm : us.Perm (visW p (d1, d2)).1 := by rw [← hf2]; exact hp
      have hnd : (us.map Prod.fst).Nodup := ((hpm.map Prod.fst).nodup_iff).2 (vis_nodup HP.out 102 (d1, d2) ⟨#[]⟩)
      refine ⟨by rw [← hf2]; exact hfew, hf1, hpm, ?_⟩
      unfold List.Nodup at hnd
      rw [List.pairwise_map] at hnd
      exact (hs.and hnd).imp (fun {a b} h => by
        cases h1 : less a.1 b.1 with
        | true => rfl
        | false => exact absurd (lessB_conn h1 h.1) h.2)
    have HI := Lib.hid h; have HK := Lib.hid hK
    have c3 := h.l.cell 0
    simp at c3
    clear h hK hS hf1 hf2 hst hI0
    gi_wp2_with fail
    refine ⟨trivial, (callsIn_wide.2 HSO.out).mono ?_⟩
    rintro e w' ⟨rfl, us, hp, hso, hown, hg⟩
    have HS := Lib.hid (HSQ.out us hp hso)
    have hul : us.length = fs.length := hp.length_eq
    have hr : ∀ k, (Value.slice Aq fs.length cq).ownBlock = some k → W2.heap.size + 2 ≤ k ∧ ∃ cur, W.heap[k]? = some (.cells cur 68 (0, 0)) := fun k hk => own_row HI.out.own hk
    have HR1 : Hid (Bk w' (w.heap.size + 1) 24 #[.slice none 0 0]) := HI.out.r1.grown hg (fun e => by have := (hr _ e.symm).1; omega)
    have HR2 : Hid (Bk w' (w.heap.size + 1 + 1) 31 #[.int .i64 0]) := HI.out.r2.grown hg (fun e => by have := (hr _ e.symm).1; omega)
    have HL3 : Hid (Bk w' (w.heap.size + 1 + 1 + 1) 24 #[.slice Aq fs.length cq]) := HI.out.l.grown hg (fun e => by have := (hr _ e.symm).1; omega)
    have HBF : Hid (Below w.heap.size w w') := HI.out.b.grown hg (by have := HI.out.r2.lt; omega) (fun k hk => by have := (hr k hk).1; omega)
    have HKD : Hid (w'.heap[D]? = some (.deferred (some []))) := (hg.block D (Array.getElem?_eq_some_iff.1 HK.out).1 (fun e => by
      obtain ⟨_, cur, h2⟩ := hr D e.symm
      rw [HK.out] at h2; cases h2)).trans HK.out
    have HOW := Lib.hid hown
    have c1 := HR1.out.cell 0; have c2 := HR2.out.cell 0; have c3 := HL3.out.cell 0
    have f1 := HR1.out.free 0; have f2 := HR2.out.free 0
    simp at c1 c2 c3
    clear hp hso hown hg hr HSO
    gi_wp2
    have hDz : ∀ k, k < W2.heap.size → k ≠ D := fun k hk => by omega
    refine ⟨by simp, .inl ⟨_, _, rfl, run_takeDeferred ((Below.heap_setCell _ _ _ _ (by simp; omega)).trans ((Below.heap_setCell _ _ _ _ (by simp; omega)).trans HKD.out)), ?_⟩⟩
    have k1 : Bk ((w'.setCell ⟨w.heap.size + 1, 0, none⟩ (.slice Aq fs.length cq)).setCell ⟨w.heap.size + 1 + 1, 0, none⟩ (.int .i64 0)) (w.heap.size + 1) 24 #[.slice Aq fs.length cq] := (HR1.out.one_set _).far (p := ⟨w.heap.size + 1 + 1, 0, none⟩) (by show w.heap.size + 1 ≠ w.heap.size + 1 + 1; omega) _
    have k2 : Bk ((w'.setCell ⟨w.heap.size + 1, 0, none⟩ (.slice Aq fs.length cq)).setCell ⟨w.heap.size + 1 + 1, 0, none⟩ (.int .i64 0)) (w.heap.size + 1 + 1) 31 #[.int .i64 0] := (HR2.out.far (p := ⟨w.heap.size + 1, 0, none⟩) (by show w.heap.size + 1 + 1 ≠ w.heap.size + 1; omega) _).one_set _
    refine ⟨_, res_cc rfl rfl rfl ((World.putObj_heap_other (by omega)).trans k1) ((World.putObj_heap_other (by omega)).trans k2), .inl ⟨us, Aq, cq, HS.out, by rw [hul], ?_⟩, ?_⟩
    · rw [hul]
      refine ownsRow_low (own_keep (ownsRow_bk (ownsRow_bk HOW.out HR1.out (by decide) 0 _) (HR2.out.far (p := ⟨w.heap.size + 1, 0, none⟩) (by show w.heap.size + 1 + 1 ≠ w.heap.size + 1; omega) _) (by decide) 0 _) (fun k hk => World.putObj_heap_other (fun e => ?_))) (by omega)
      subst e
      obtain ⟨_, cur, h2⟩ := own_row HOW.out hk
      rw [HKD.out] at h2; cases h2
    · exact ((HBF.out.setCell (p := ⟨w.heap.size + 1, 0, none⟩) (by simp) _).setCell (p := ⟨w.heap.size + 1 + 1, 0, none⟩) (by show w.heap.size ≤ w.heap.size + 1 + 1; omega) _).grown (grownBy_putObj' _ _ _) (by have := HBF.out.size; simpa using this) (fun k e => by cases e; omega)
  case stop =>
    rintro D c pre W hD hS ⟨rfl, err, h⟩ hK
    have HI := Lib.hid h; have HK := Lib.hid hK
    clear h hK hS hst hI0
    gi_wp2
    refine ⟨by simp, .inl ⟨_, _, rfl, run_takeDeferred HK.out, ?_⟩⟩
    refine ⟨_, res_cc rfl rfl rfl ((World.putObj_heap_other (by omega)).trans HI.out.r1) ((World.putObj_heap_other (by omega)).trans HI.out.r2), .inr ⟨err, HI.out.lod, HI.out.nz, rfl⟩, ?_⟩
    exact HI.out.b.grown (grownBy_putObj' _ _ _) HI.out.b.size (fun k e => by cases e; omega)
end Go.Proofs.YtmdhlkkekidknaaGreatDoor

namespace Go.Proofs.YtmdhlkkekidknaaGreatDoor
open Go.RowKit

theorem sl_on {w w' : World} {n size : Nat} {A : Option Addr} {xs : List Value} (h : Sl w w.heap.size size A n xs) (hb : Below w.heap.size w w') : Sl w' w'.heap.size size A n xs := (h.below hb (Nat.le_refl _)).more hb.size
def fcV (x : FCh) : Value := .agg #[.string x.path, .bool x.ho, .bool x.hn, .string x.old, .string x.new]
def fc0 : FCh := ⟨eB, false, false, eB, eB⟩
def gD (a b : List Fl) (s : ByteArray) : Option Value := if (lookF9 a s).isSome || (lookF9 b s).isSome then some (fcV (chg a b s)) else none
theorem gD_nil : gD [] [] = fun _ => none := by funext s; simp [gD, lookF9]
theorem gD_some (a b : List Fl) (s : ByteArray) : (gD a b s).isSome = true ↔ ((lookF9 a s).isSome = true ∨ (lookF9 b s).isSome = true) := by
  unfold gD
  by_cases h : ((lookF9 a s).isSome || (lookF9 b s).isSome) = true
  · rw [if_pos h]; simpa using h
  · rw [if_neg h]; simpa using h
theorem gD_get {a b : List Fl} {s : ByteArray} (h : (lookF9 a s).isSome = true ∨ (lookF9 b s).isSome = true) (z : Value) : (gD a b s).getD z = fcV (chg a b s) := by
  unfold gD
  rw [if_pos (by simpa using h)]; rfl
theorem gD_old {a : List Fl} {f : Fl} (hn : f.1 ∉ a.map Prod.fst) : gD (a ++ [f]) [] = upd (gD a []) f.1 (fcV ⟨f.1, true, false, f.2, eB⟩) := by
  funext s
  unfold upd gD chg
  rw [look9_snoc hn]
  by_cases h : s = f.1
  · subst h; simp [lookF9]
  · have h' : ¬ f.1 = s := fun e => h e.symm
    simp only [if_neg h, if_neg h']
theorem look_not {b : List Fl} {s : ByteArray} (hn : s ∉ b.map Prod.fst) : lookF9 b s = none := look9_none.2 fun g hg e => hn (by rw [← e]; exact List.mem_map_of_mem hg)
theorem gD_new {a b : List Fl} {f : Fl} (hn : f.1 ∉ b.map Prod.fst) : gD a (b ++ [f]) = upd (gD a b) f.1 (fcV ⟨f.1, (lookF9 a f.1).isSome, true, (lookF9 a f.1).getD eB, f.2⟩) := by
  funext s
  unfold upd gD chg
  rw [look9_snoc hn]
  by_cases h : s = f.1
  · subst h; simp
  · have h' : ¬ f.1 = s := fun e => h e.symm
    simp only [if_neg h, if_neg h']
theorem gD_look {a b : List Fl} {f : Fl} (hn : f.1 ∉ b.map Prod.fst) : ∃ q, (gD a b f.1).getD (fcV fc0) = fcV ⟨q, (lookF9 a f.1).isSome, false, (lookF9 a f.1).getD eB, eB⟩ := by
  unfold gD chg
  rw [look_not hn]
  cases h : lookF9 a f.1 with
  | none => exact ⟨eB, rfl⟩
  | some d => exact ⟨f.1, rfl⟩
def chL (a b : List Fl) (ks : List ByteArray) : List FCh := (ks.map (chg a b)).filter (fun x => decide (isCh x))
theorem chL_snoc (a b : List Fl) (ks : List ByteArray) (k : ByteArray) : chL a b (ks ++ [k]) = if isCh (chg a b k) then chL a b ks ++ [chg a b k] else chL a b ks := by
  unfold chL
  rw [List.map_append, List.filter_append]
  by_cases h : isCh (chg a b k)
  · rw [if_pos h]; simp [h]
  · rw [if_neg h]; simp [h]
theorem chL_len (a b : List Fl) (ks : List ByteArray) : (chL a b ks).length ≤ ks.length := by
  unfold chL
  exact Nat.le_trans (List.length_filter_le _ _) (by simp)
theorem infoFC : (Tryz.prog.info? 112).map (fun i => (i.zero, i.size, i.bytes)) = some (some (.agg #[.string ⟨#[]⟩, .bool false, .bool false, .string ⟨#[]⟩, .string ⟨#[]⟩]), 5, 56) := by kernel_rfl
def DfE (p : List Itm) (d1 d2 : Dig) (w : World) (e : Ending) (w' : World) : Prop :=
  ((∃ err, LodE p d1 err ∧ err ≠ 0 ∧ e = .returned (.tuple #[.slice none 0 0, .int .i64 err])) ∨
   (∃ a, LdSeq p d1 a ∧ ((∃ err, LodE p d2 err ∧ err ≠ 0 ∧ e = .returned (.tuple #[.slice none 0 0, .int .i64 err])) ∨
     (∃ b c A cap, LdSeq p d2 b ∧ DifR a b c ∧ e = .returned (.tuple #[.slice A c.length cap, .int .i64 0]) ∧ Sl w' w'.heap.size 5 A c.length (flat fcC c) ∧ c.length ≤ cap ∧ cap ≤ maxLen ∧ c.length ≤ 400))))
  ∧ Below w.heap.size w w'
end Go.Proofs.YtmdhlkkekidknaaGreatDoor

namespace Go.Proofs.YtmdhlkkekidknaaGreatDoor
open Go.RowKit Go.Shelf

theorem cmp_zero : ∀ a b : List UInt8, Lib.compareBytes a b = 0 ↔ a = b
  | [], [] => by simp [Lib.compareBytes]
  | [], _ :: _ => by simp [Lib.compareBytes]
  | _ :: _, [] => by simp [Lib.compareBytes]
  | a :: x, b :: y => by
    have ih := cmp_zero x y
    simp only [Lib.compareBytes]
    by_cases h1 : a < b
    · simp [h1]; intro e; subst e; exact absurd h1 (UInt8.lt_irrefl _)
    · by_cases h2 : b < a
      · simp [h1, h2]; intro e; subst e; exact absurd h2 (UInt8.lt_irrefl _)
      · have h3 : a = b := by
          apply UInt8.toNat_inj.1
          rw [UInt8.lt_iff_toNat_lt] at h1 h2
          omega
        subst h3
        simp [h1, ih]
def cmpS (a b : ByteArray) : Int := Lib.compareBytes a.data.toList b.data.toList
theorem cmpS_lt (a b : ByteArray) : cmpS a b < 0 ↔ less a b = true := by
  have h : decide (cmpS a b < 0) = less a b := cmp_less _ _
  rw [← h, decide_eq_true_eq]
theorem cmpS_zero (a b : ByteArray) : cmpS a b = 0 ↔ a = b := ⟨fun h => data_inj ((cmp_zero _ _).1 h), fun h => (cmp_zero _ _).2 (by rw [h])⟩
def atF (l : List Fl) (s : ByteArray) : Nat := l.countP (fun g => less g.1 s)
theorem atF_le (l : List Fl) (s : ByteArray) : atF l s ≤ l.length := List.countP_le_length
theorem atF_split {l : List Fl} (h : AscF l) (s : ByteArray) : l.take (atF l s) = l.filter (fun g => less g.1 s) ∧ l.drop (atF l s) = l.filter (fun g => !less g.1 s) := by
  induction l with
  | nil => exact ⟨rfl, rfl⟩
  | cons g l ih =>
    obtain ⟨h1, h2⟩ := ih h.tail
    unfold atF at *
    cases hl : less g.1 s with
    | true =>
      rw [List.countP_cons_of_pos (by simpa using hl), List.filter_cons_of_pos (by simpa using hl), List.filter_cons_of_neg (by rw [hl]; simp), List.take_succ_cons, List.drop_succ_cons, h1, h2]
      exact ⟨rfl, rfl⟩
    | false =>
      have hall : ∀ x ∈ g :: l, less x.1 s = false := fun x hx => by
        rcases List.mem_cons.1 hx with rfl | hx
        · exact hl
        · cases hb : less x.1 s with
          | false => rfl
          | true => have := lessB_trans (h.head hx) hb; rw [hl] at this; cases this
      have h0 : (g :: l).countP (fun g => less g.1 s) = 0 := by rw [List.countP_eq_zero]; intro x hx; simp [hall x hx]
      rw [h0, filter_none hall, filter_all (fun x hx => by rw [hall x hx]; rfl)]
      exact ⟨rfl, rfl⟩
theorem atF_below {l : List Fl} (h : AscF l) {s : ByteArray} {k : Nat} {g : Fl} (hg : l[k]? = some g) (hk : k < atF l s) : less g.1 s = true := by
  have h1 : g ∈ l.take (atF l s) := List.mem_of_getElem? (by rw [List.getElem?_take_of_lt hk]; exact hg)
  rw [(atF_split h s).1, List.mem_filter] at h1
  exact h1.2
theorem atF_above {l : List Fl} (h : AscF l) {s : ByteArray} {k : Nat} {g : Fl} (hg : l[k]? = some g) (hk : atF l s ≤ k) : less g.1 s = false := by
  have h1 : g ∈ l.drop (atF l s) := List.mem_of_getElem? (i := k - atF l s) (by rw [List.getElem?_drop]; rw [show atF l s + (k - atF l s) = k by omega]; exact hg)
  rw [(atF_split h s).2, List.mem_filter] at h1
  simpa using h1.2
theorem look_at {l : List Fl} (h : AscF l) {s : ByteArray} {g : Fl} (hg : l[atF l s]? = some g) : lookF9 l s = if g.1 = s then some g.2 else none := by
  have hn := asc_nodup h
  by_cases hs : g.1 = s
  · rw [if_pos hs, look9_some hn, ← hs]; exact List.mem_of_getElem? hg
  · rw [if_neg hs, look9_none]
    intro x hx hxs
    obtain ⟨k, hk⟩ := List.mem_iff_getElem?.1 hx
    rcases Nat.lt_or_ge k (atF l s) with h1 | h1
    · have := atF_below h hk h1
      rw [hxs, lessB_irrefl] at this; cases this
    · have h2 := atF_above h hg (Nat.le_refl _)
      rcases Nat.eq_or_lt_of_le h1 with h3 | h3
      · rw [← h3, hg] at hk; cases hk; exact hs hxs
      · have h4 : less g.1 x.1 = true := by
          obtain ⟨h5, h6⟩ := List.getElem?_eq_some_iff.1 hg
          obtain ⟨h7, h8⟩ := List.getElem?_eq_some_iff.1 hk
          have := List.pairwise_iff_getElem.1 h _ _ h5 h7 h3
          rw [h6, h8] at this; exact this
        rw [hxs, h2] at h4; cases h4
theorem look_end {l : List Fl} (h : AscF l) {s : ByteArray} (hg : l.length ≤ atF l s) : lookF9 l s = none := by
  rw [look9_none]
  intro x hx hxs
  obtain ⟨k, hk⟩ := List.mem_iff_getElem?.1 hx
  have := atF_below h hk (Nat.lt_of_lt_of_le (List.getElem?_eq_some_iff.1 hk).1 hg)
  rw [hxs, lessB_irrefl] at this; cases this
def TfE (l : List Fl) (s : ByteArray) (w : World) (e : Ending) (w' : World) : Prop := e = .returned (.tuple #[.int .i64 (atF l s : Nat), .bool (lookF9 l s).isSome]) ∧ Below w.heap.size w w'
set_option maxHeartbeats 1000000 in
theorem tfind1_any (a a1 s : ByteArray) (w : World) : Calls Tryz.prog 100 #[.agg #[.string a, .string a1], .string s] w fun e w' => e = .returned (.int .i64 (cmpS a s)) ∧ Below w.heap.size w w' := by
  have hcon := fun W' => Tryz.strings_Compare a s W'
  unfold cmpS
  generalize Lib.compareBytes a.data.toList s.data.toList = r at hcon ⊢
  have HC := Lib.hid hcon
  clear hcon
  go_enter Tryz.func100, Tryz.ntmps100
  go_wp2_with (go_at_call 60; refine (HC.out _).mono ?_; rintro e w' ⟨rfl, rfl⟩)
  go_ret
  exact ⟨rfl, (Below.refl _ w).alloc (Nat.le_refl _) _⟩
set_option maxRecDepth 100000 in
set_option maxHeartbeats 4000000 in
theorem bsf_any (A : Option Addr) (n c B : Nat) (l : List Fl) (s : ByteArray) (w : World) (h0 : Sl w B 2 A n (flat flC l)) (hB : B ≤ w.heap.size) (hn : n ≤ 1000000) (ha : AscF l) :
    Calls Tryz.prog 99 #[.slice A n c, .string s, .func (.func 100) #[] #[]] w (TfE l s w) := by
  have HL := Lib.hid (h0.len flC_len (by omega))
  have H0 := Lib.hid h0; have HA := Lib.hid ha
  clear h0 ha
  obtain ⟨m, hm⟩ : ∃ m, atF l s = m := ⟨_, rfl⟩
  have hmn : m ≤ n := by rw [← hm, ← HL.out]; exact atF_le _ _
  have HM := Lib.hid hm
  obtain ⟨q, hq⟩ : ∃ q, (lookF9 l s).isSome = q := ⟨_, rfl⟩
  have HQ := Lib.hid hq
  unfold TfE
  rw [hm, hq]
  clear hm hq
  go_enter Tryz.func99, Tryz.ntmps99
  go_wp2_with fail
  go_loopw [9, 10] (fun i j wr => ∃ a b : Nat, i = .int .i64 (a : Int) ∧ j = .int .i64 (b : Int) ∧ a ≤ m ∧ m ≤ b ∧ b ≤ n ∧ Hid (Below w.heap.size w wr)) (fun i j _ => (intOf j).toNat - (intOf i).toNat)
  case atStart => exact ⟨0, n, rfl, rfl, Nat.zero_le _, hmn, Nat.le_refl _, Below.refl _ _⟩
  case round =>
    obtain ⟨a, b, rfl, rfl, ham, hmb, hbn, hBel⟩ := hrel
    by_cases hlt : a < b
    · have hlz : (a : Int) < (b : Int) := by omega
      obtain ⟨h, hh⟩ : ∃ h, (a + b) / 2 = h := ⟨_, rfl⟩
      have hah : a ≤ h := by omega
      have hhb : h < b := by omega
      obtain ⟨bb, off, f, rfl, hbB, hx, y0, y1⟩ := (H0.out.below hBel.out hB).fl (k := h) (by omega)
      have HX := Lib.hid hx; clear hx
      obtain ⟨fp, fd⟩ := f
      simp only at y0 y1
      obtain ⟨z, hz⟩ : ∃ z, cmpS fp s = z := ⟨_, rfl⟩
      have HZ := Lib.hid hz
      have HC2 : Hid (∀ w, Calls Tryz.prog 100 #[.agg #[.string fp, .string fd], .string s] w fun e w' => e = .returned (.int .i64 z) ∧ Below w.heap.size w w') := fun w => by
        have := tfind1_any fp fd s w
        rw [hz] at this; exact this
      have hh' : ((a : Int) + (b : Int)) / 2 = (h : Int) := by omega
      have hhn : h < n := by omega
      have hhz : (h : Int) < (n : Int) := by omega
      clear hz
      by_cases hl : less fp s = true
      · have hzn : z < 0 := by rw [← HZ.out]; exact (cmpS_lt _ _).2 hl
        have hhm : h < m := by
          rcases Nat.lt_or_ge h m with h1 | h1
          · exact h1
          · have := atF_above HA.out HX.out (by rw [HM.out]; exact h1)
            simp only at this; rw [hl] at this; cases this
        clear hl
        go_wp2_with fail
        refine (HC2.out _).mono ?_
        rintro e w3 ⟨rfl, hb3⟩
        have HB3 : Hid (Below w.heap.size w w3) := hBel.out.trans (hb3.mono hBel.out.size)
        clear hb3
        go_wp2_with fail
        go_roundw
        case rel => exact ⟨h + 1, b, by go_num, rfl, hhm, hmb, hbn, HB3.out⟩
        case measure => simp [intOf]; omega
      · have hzn : ¬ z < 0 := by rw [← HZ.out]; exact fun h0 => hl ((cmpS_lt _ _).1 h0)
        have hhm : m ≤ h := by
          rcases Nat.lt_or_ge h m with h1 | h1
          · exact absurd (atF_below HA.out HX.out (by rw [HM.out]; exact h1)) hl
          · exact h1
        clear hl
        go_wp2_with fail
        refine (HC2.out _).mono ?_
        rintro e w3 ⟨rfl, hb3⟩
        have HB3 : Hid (Below w.heap.size w w3) := hBel.out.trans (hb3.mono hBel.out.size)
        clear hb3
        go_wp2_with fail
        go_roundw
        case rel => exact ⟨a, h, rfl, rfl, ham, hhm, by omega, HB3.out⟩
        case measure => simp [intOf]; omega
    · have hlz : ¬ (a : Int) < (b : Int) := by omega
      obtain rfl : a = m := by omega
      obtain rfl : b = a := by omega
      by_cases hbn' : b < n
      · obtain ⟨bb, off, f, rfl, hbB, hx, y0, y1⟩ := (H0.out.below hBel.out hB).fl (k := b) hbn'
        obtain ⟨fp, fd⟩ := f
        simp only at y0 y1
        have HF := Lib.hid (look_at HA.out (by rw [HM.out]; exact hx)); clear hx
        simp only at HF
        obtain ⟨z, hz⟩ : ∃ z, cmpS fp s = z := ⟨_, rfl⟩
        have HC2 : Hid (∀ w, Calls Tryz.prog 100 #[.agg #[.string fp, .string fd], .string s] w fun e w' => e = .returned (.int .i64 z) ∧ Below w.heap.size w w') := fun w => by
          have := tfind1_any fp fd s w
          rw [hz] at this; exact this
        have hzq : (z == 0) = q := by
          rw [← HQ.out, HF.out, ← hz]
          by_cases h1 : fp = s
          · rw [if_pos h1, (cmpS_zero _ _).2 h1]; rfl
          · rw [if_neg h1, beq_eq_false_iff_ne.2 (fun h2 => h1 ((cmpS_zero _ _).1 h2))]; rfl
        have hlz' : (b : Int) < (n : Int) := by omega
        clear hz
        go_wp2_with fail
        refine (HC2.out _).mono ?_
        rintro e w3 ⟨rfl, hb3⟩
        have HB3 : Hid (Below w.heap.size w w3) := hBel.out.trans (hb3.mono hBel.out.size)
        clear hb3
        go_wp2_with fail
        go_ret2
        exact ⟨rfl, HB3.out⟩
      · have hlz' : ¬ (b : Int) < (n : Int) := by omega
        have hq0 : q = false := by rw [← HQ.out, look_end HA.out (by rw [HM.out, HL.out]; omega)]; rfl
        subst hq0
        go_wp2_with fail
        go_ret2
        exact ⟨rfl, hBel.out⟩
set_option maxHeartbeats 1000000 in
theorem tfind_any (A : Option Addr) (n c B : Nat) (l : List Fl) (s : ByteArray) (w : World) (h0 : Sl w B 2 A n (flat flC l)) (hB : B ≤ w.heap.size) (hn : n ≤ 1000000) (ha : AscF l) :
    Calls Tryz.prog 49 #[.slice A n c, .string s] w (TfE l s w) := by
  have HC := Lib.hid (bsf_any A n c B l s w h0 hB hn ha)
  clear h0
  unfold TfE at HC ⊢
  go_enter Tryz.func49, Tryz.ntmps49
  go_wp2_with fail
  refine HC.out.mono ?_
  rintro e w2 ⟨rfl, hb⟩
  have HB2 := Lib.hid hb; clear hb
  go_wp2_with fail
  go_ret2
  exact ⟨rfl, HB2.out⟩
end Go.Proofs.YtmdhlkkekidknaaGreatDoor

namespace Go.Proofs.YtmdhlkkekidknaaGreatDoor
open Go.RowKit

theorem nodup_of_map {α β : Type} (f : α → β) {l : List α} (h : (l.map f).Nodup) : l.Nodup := by
  unfold List.Nodup at h ⊢
  rw [List.pairwise_map] at h
  exact h.imp (fun hn e => hn (by rw [e]))
def EntS (q : List Itm) (g : Dig → List Fl → Prop) (l : List Fl) (e : Ent) : Prop :=
  (e.dir = false ∧ ∃ s, (e.nm, s) ∈ l ∧ getP q e.dg = some (blobO s)) ∨ (e.dir = true ∧ inD l e.nm ≠ [] ∧ (∀ f ∈ l, f.1 ≠ e.nm) ∧ g e.dg (inD l e.nm))
def Std (q : List Itm) : Nat → Dig → List Fl → Prop
  | 0, _, _ => False
  | k + 1, d, l => ∃ es, getP q d = some (treeO es) ∧ es.map Ent.nm = nmsP l ∧ ∀ e ∈ es, EntS q (Std q k) l e
theorem EntS.mono {q q' : List Itm} {g g' : Dig → List Fl → Prop} {l : List Fl} {e : Ent} (hq : PlOk q) (hq' : PlOk q') (hs : subP q q') (hg : ∀ d l, g d l → g' d l) (h : EntS q g l e) : EntS q' g' l e := by
  rcases h with ⟨h1, s, h2, h3⟩ | ⟨h1, h2, h3, h4⟩
  · exact .inl ⟨h1, s, h2, getP_mono hq hq' hs h3⟩
  · exact .inr ⟨h1, h2, h3, hg _ _ h4⟩
theorem Std.mono {q q' : List Itm} (hq : PlOk q) (hq' : PlOk q') (hs : subP q q') : ∀ {k : Nat} {d : Dig} {l : List Fl}, Std q k d l → Std q' k d l := by
  intro k
  induction k with
  | zero => intro d l h; exact h
  | succ k ih =>
    rintro d l ⟨es, h1, h2, h3⟩
    exact ⟨es, getP_mono hq hq' hs h1, h2, fun e he => (h3 e he).mono hq hq' hs (fun d l h => ih h)⟩
theorem nms_perm {l m : List Fl} (h : l.Perm m) : nmsP l = nmsP m :=
  asc_ext (nms_asc l) (nms_asc m) (fun x => by
    rw [nms_mem, nms_mem]
    constructor
    · rintro ⟨f, hf, e⟩; exact ⟨f, h.mem_iff.1 hf, e⟩
    · rintro ⟨f, hf, e⟩; exact ⟨f, h.mem_iff.2 hf, e⟩)
theorem inD_perm {l m : List Fl} (h : l.Perm m) (n : ByteArray) : (inD l n).Perm (inD m n) := by
  unfold inD; exact (h.filter _).map _
theorem Std.perm {q : List Itm} : ∀ {k : Nat} {d : Dig} {l m : List Fl}, l.Perm m → Std q k d l → Std q k d m := by
  intro k
  induction k with
  | zero => intro d l m _ h; exact h
  | succ k ih =>
    rintro d l m hp ⟨es, h1, h2, h3⟩
    refine ⟨es, h1, by rw [h2, nms_perm hp], fun e he => ?_⟩
    rcases h3 e he with ⟨a, s, b, c⟩ | ⟨a, b, c, f⟩
    · exact .inl ⟨a, s, hp.mem_iff.1 b, c⟩
    · refine .inr ⟨a, fun e0 => b ?_, fun f hf => c f (hp.mem_iff.2 hf), ih (inD_perm hp _) f⟩
      have := (inD_perm hp e.nm).length_eq
      rw [e0] at this
      exact List.eq_nil_of_length_eq_zero this
theorem OkL.perm {l m : List Fl} (h : OkL l) (hp : l.Perm m) : OkL m :=
  ⟨fun f hf => h.path f (hp.mem_iff.2 hf), fun f hf => h.data f (hp.mem_iff.2 hf), by rw [← hp.length_eq]; exact h.few, ((hp.map _).nodup_iff).1 h.nod, fun f hf g hg => h.nob f (hp.mem_iff.2 hf) g (hp.mem_iff.2 hg)⟩
theorem Std.fuel {q : List Itm} : ∀ {k : Nat} {k' : Nat} {d : Dig} {l : List Fl}, OkL l → Std q k d l → (∀ f ∈ l, f.1.size < k') → 1 ≤ k' → Std q k' d l := by
  intro k
  induction k with
  | zero => intro k' d l _ h; exact h.elim
  | succ k ih =>
    rintro k' d l hl ⟨es, h1, h2, h3⟩ hk h0
    obtain ⟨m, rfl⟩ : ∃ m, k' = m + 1 := ⟨k' - 1, by omega⟩
    refine ⟨es, h1, h2, fun e he => ?_⟩
    rcases h3 e he with h | ⟨a, b, c, f⟩
    · exact .inl h
    · have hsz : ∀ x ∈ inD l e.nm, x.1.size < m := fun x hx => by
        obtain ⟨g, hg, g1, _, rfl⟩ := mem_inD.1 hx
        have := (path_rest (hl.path g hg) g1).2
        have := hk g hg
        simp only; omega
      obtain ⟨x, hx⟩ := List.exists_mem_of_ne_nil _ b
      exact .inr ⟨a, b, c, ih (hl.sub _) f hsz (by have := hsz x hx; omega)⟩
theorem stoE_std {k : Nat} (ih : ∀ (p : List Itm) (l : List Fl) (q : List Itm) (d : Dig), OkL l → PlOk p → sto k p l = some (q, d) → Std q k d l ∧ PlOk q ∧ subP p q) {l : List Fl} (hl : OkL l) :
    ∀ (ns : List ByteArray) (p : List Itm) (es : List Ent) (q : List Itm) (es' : List Ent), PlOk p → (∀ n ∈ ns, n ∈ nmsP l) → stoE (sto k) l p ns es = some (q, es') → PlOk q ∧ subP p q ∧ ∃ fs, es' = es ++ fs ∧ fs.map Ent.nm = ns ∧ ∀ e ∈ fs, EntS q (Std q k) l e := by
  intro ns
  induction ns with
  | nil =>
    intro p es q es' hp _ h
    rw [stoE] at h
    cases h
    exact ⟨hp, subP.refl _, [], by simp, rfl, fun e h => by cases h⟩
  | cons n r ihr =>
    intro p es q es' hp hns h
    cases hk : lookF9 l n with
    | some s =>
      have hm := (look9_some hl.nod).1 hk
      cases hpp : putP p (blobO s) with
      | none => rw [stoE_filex hk hpp] at h; cases h
      | some p1 =>
        rw [stoE_file hk hpp] at h
        have hob := okO_blob (hl.data _ hm)
        have hp1 := putP_ok hp hob hpp
        obtain ⟨a, b, fs, c, d, e⟩ := ihr p1 _ q es' hp1 (fun m hm => hns m (by simp [hm])) h
        refine ⟨a, (putP_sub hp hpp).trans b, ⟨n, false, dgO (blobO s)⟩ :: fs, by rw [c]; simp, by rw [List.map_cons, d], fun x hx => ?_⟩
        rcases List.mem_cons.1 hx with rfl | hx
        · exact .inl ⟨rfl, s, hm, getP_mono hp1 a b (putP_get hp hob hpp)⟩
        · exact e x hx
    | none =>
      cases hpp : sto k p (inD l n) with
      | none => rw [stoE_dirx hk hpp] at h; cases h
      | some pd =>
        obtain ⟨p1, d1⟩ := pd
        rw [stoE_dir hk hpp] at h
        obtain ⟨h1, hp1, hs1⟩ := ih p _ p1 d1 (hl.sub n) hp hpp
        obtain ⟨a, b, fs, c, d, e⟩ := ihr p1 _ q es' hp1 (fun m hm => hns m (by simp [hm])) h
        refine ⟨a, hs1.trans b, ⟨n, true, d1⟩ :: fs, by rw [c]; simp, by rw [List.map_cons, d], fun x hx => ?_⟩
        rcases List.mem_cons.1 hx with rfl | hx
        · exact .inr ⟨rfl, dir_ne (hns n (by simp)) hk, fun f hf e => look9_none.1 hk f hf e, h1.mono hp1 a b⟩
        · exact e x hx
theorem ents_ok {es : List Ent} {l : List Fl} {q : List Itm} {g : Dig → List Fl → Prop} (hl : OkL l) (h2 : es.map Ent.nm = nmsP l) (h : ∀ e ∈ es, EntS q g l e) (hg : ∀ d l, g d l → WfD d ∧ d ≠ zD) (hq : PlOk q) : OkEs es where
  few := by
    have := congrArg List.length h2
    rw [List.length_map] at this
    have := nms_len l
    have := hl.few
    omega
  all e he := by
    have hn : e.nm ∈ nmsP l := by rw [← h2]; exact List.mem_map_of_mem he
    obtain ⟨f, hf, e1⟩ := nms_mem.1 hn
    have hnm : nameB e.nm = true := by rw [e1]; exact path_name (hl.path f hf)
    rcases h e he with ⟨_, s, _, c⟩ | ⟨_, _, _, c⟩
    · have := getP_dg hq c
      exact ⟨hnm, by rw [this]; exact wf_ofB _, by rw [this]; exact ofB_nz _⟩
    · exact ⟨hnm, (hg _ _ c).1, (hg _ _ c).2⟩
  asc j a b ha hb := asc_ents (by rw [h2]; exact nms_asc l) ha hb
theorem std_wf {q : List Itm} (hq : PlOk q) {k : Nat} {d : Dig} {l : List Fl} (h : Std q k d l) : WfD d ∧ d ≠ zD := by
  cases k with
  | zero => exact h.elim
  | succ k =>
    obtain ⟨es, h1, _⟩ := h
    have := getP_dg hq h1
    exact ⟨by rw [this]; exact wf_ofB _, by rw [this]; exact ofB_nz _⟩
theorem sto_std : ∀ (k : Nat) (p : List Itm) (l : List Fl) (q : List Itm) (d : Dig), OkL l → PlOk p → sto k p l = some (q, d) → Std q k d l ∧ PlOk q ∧ subP p q := by
  intro k
  induction k with
  | zero => intro p l q d _ _ h; rw [sto] at h; cases h
  | succ k ih =>
    intro p l q d hl hp h
    rw [sto] at h
    cases hE : stoE (sto k) l p (nmsP l) [] with
    | none => rw [hE] at h; cases h
    | some pe =>
      obtain ⟨p1, es⟩ := pe
      rw [hE] at h
      simp only at h
      cases hpp : putP p1 (treeO es) with
      | none => rw [hpp] at h; cases h
      | some p2 =>
        rw [hpp] at h
        cases h
        obtain ⟨a, b, fs, c, e1, e2⟩ := stoE_std ih hl (nmsP l) p [] p1 es hp (fun n hn => hn) hE
        rw [List.nil_append] at c
        subst c
        have hes := ents_ok hl e1 e2 (fun d l h => std_wf a h) a
        have hob := okO_treeO hes
        have hok := putP_ok a hob hpp
        have hsb := putP_sub a hpp
        exact ⟨⟨es, putP_get a hob hpp, e1, fun e he => (e2 e he).mono a hok hsb (fun d l h => h.mono a hok hsb)⟩, hok, b.trans hsb⟩
theorem vsE_good {g : Dig → ByteArray → List Fl × Int} {p : List Itm} {pre : ByteArray} : ∀ {es : List Ent}, (∀ e ∈ es, (pre ++ e.nm).size ≤ 100 ∧ ((e.dir = true ∧ (g e.dg (pre ++ e.nm ++ slB)).2 = 0) ∨ (e.dir = false ∧ ∃ o, getP p e.dg = some o ∧ o.kind = 1))) →
    (vsE g p pre es).2 = 0 ∧ ∀ f, f ∈ (vsE g p pre es).1 ↔ ∃ e ∈ es, (e.dir = true ∧ f ∈ (g e.dg (pre ++ e.nm ++ slB)).1) ∨ (e.dir = false ∧ ∃ o, getP p e.dg = some o ∧ f = (pre ++ e.nm, o.data)) := by
  intro es
  induction es with
  | nil => intro _; exact ⟨rfl, fun f => by simp [vsE]⟩
  | cons e es ih =>
    intro h
    obtain ⟨i1, i2⟩ := ih (fun e he => h e (by simp [he]))
    obtain ⟨h1, h2⟩ := h e (by simp)
    have hf : ¬ 100 < (pre ++ e.nm).size := by omega
    rcases h2 with ⟨hd, hz⟩ | ⟨hd, o, ho, hk⟩
    · rw [vsE_dir hf hd (s := (g e.dg (pre ++ e.nm ++ slB)).1) (by rw [← hz])]
      refine ⟨i1, fun f => ?_⟩
      simp only
      rw [List.mem_append, i2]
      constructor
      · rintro (h | ⟨e', he, h⟩)
        · exact ⟨e, by simp, .inl ⟨hd, h⟩⟩
        · exact ⟨e', by simp [he], h⟩
      · rintro ⟨e', he, hw⟩
        rcases List.mem_cons.1 he with rfl | he
        · rcases hw with ⟨_, hw⟩ | ⟨h0, _⟩
          · exact .inl hw
          · rw [hd] at h0; cases h0
        · exact .inr ⟨e', he, hw⟩
    · rw [vsE_file hf hd ho hk]
      refine ⟨i1, fun f => ?_⟩
      simp only
      rw [List.mem_cons, i2]
      constructor
      · rintro (h | ⟨e', he, h⟩)
        · exact ⟨e, by simp, .inr ⟨hd, o, ho, h⟩⟩
        · exact ⟨e', by simp [he], h⟩
      · rintro ⟨e', he, hw⟩
        rcases List.mem_cons.1 he with rfl | he
        · rcases hw with ⟨h0, _⟩ | ⟨_, o', ho', hw⟩
          · rw [hd] at h0; cases h0
          · rw [ho] at ho'; cases ho'; exact .inl hw
        · exact .inr ⟨e', he, hw⟩
theorem size_app (a b : ByteArray) : (a ++ b).size = a.size + b.size := by rw [← bl_size, bl_app, List.length_append, bl_size, bl_size]
theorem app_assocB (a b c : ByteArray) : a ++ b ++ c = a ++ (b ++ c) := by apply bl_inj; simp [bl_app]
theorem deep_eq {s : ByteArray} (h : deN s = true) : s = fsN s ++ slB ++ rsN s := by apply bl_inj; rw [bl_app, bl_app, bl_slB, List.append_assoc]; exact cut_deep h
theorem std_vis {q : List Itm} : ∀ (k : Nat) (d : Dig) (l : List Fl), OkL l → Std q k d l → ∀ (n : Nat) (pre : ByteArray), (∀ f ∈ l, pre.size + f.1.size ≤ 100) → 102 ≤ n + pre.size → (l = [] → pre = ⟨#[]⟩) →
    (vis q n d pre).2 = 0 ∧ ∀ f, f ∈ (vis q n d pre).1 ↔ ∃ g ∈ l, f = (pre ++ g.1, g.2) := by
  intro k
  induction k with
  | zero => intro d l _ h; exact h.elim
  | succ k ih =>
    rintro d l hl ⟨es, h1, h2, h3⟩ n pre hsz hn hne
    have hn1 : 1 ≤ n := by
      cases l with
      | nil => rw [hne rfl] at hn; have : (⟨#[]⟩ : ByteArray).size = 0 := rfl; omega
      | cons f l => have := hsz f (by simp); omega
    obtain ⟨n, rfl⟩ : ∃ m, n = m + 1 := ⟨n - 1, by omega⟩
    have hes : ¬ ((treeO es).ents = [] ∧ pre ≠ ⟨#[]⟩) := by
      rintro ⟨he, hp⟩
      have he' : es = [] := he
      subst he'
      cases l with
      | nil => exact hp (hne rfl)
      | cons f l =>
        have : fsN f.1 ∈ nmsP (f :: l) := nms_mem.2 ⟨f, by simp, rfl⟩
        rw [← h2] at this; cases this
    rw [vis_ents h1 rfl hes]
    show (vsE (vis q n) q pre es).2 = 0 ∧ ∀ f, f ∈ (vsE (vis q n) q pre es).1 ↔ ∃ g ∈ l, f = (pre ++ g.1, g.2)
    have key : ∀ e ∈ es, (pre ++ e.nm).size ≤ 100 ∧ ((e.dir = true ∧ (vis q n e.dg (pre ++ e.nm ++ slB)).2 = 0 ∧ ∀ f, f ∈ (vis q n e.dg (pre ++ e.nm ++ slB)).1 ↔ ∃ g ∈ inD l e.nm, f = (pre ++ e.nm ++ slB ++ g.1, g.2)) ∨ (e.dir = false ∧ ∃ s, (e.nm, s) ∈ l ∧ getP q e.dg = some (blobO s))) := by
      intro e he
      rcases h3 e he with ⟨a, s, b, c⟩ | ⟨a, b, c, f⟩
      · exact ⟨by rw [size_app]; exact hsz _ b, .inr ⟨a, s, b, c⟩⟩
      · have hs : ∀ x ∈ inD l e.nm, (pre ++ e.nm ++ slB).size + x.1.size ≤ 100 := fun x hx => by
          obtain ⟨g, hg, g1, g2, rfl⟩ := mem_inD.1 hx
          have h4 := hsz g hg
          have h5 := congrArg ByteArray.size (deep_eq g1)
          rw [size_app, size_app, g2] at h5
          rw [size_app, size_app]; simp only; omega
        have hnm : 1 ≤ e.nm.size := by
          obtain ⟨x, hx⟩ := List.exists_mem_of_ne_nil _ b
          obtain ⟨g, hg, _, g2, _⟩ := mem_inD.1 hx
          rw [← g2]; exact (name_len (path_name (hl.path g hg))).1
        have hs0 : slB.size = 1 := rfl
        obtain ⟨i1, i2⟩ := ih e.dg (inD l e.nm) (hl.sub _) f n (pre ++ e.nm ++ slB) hs (by rw [size_app, size_app]; omega) (fun h => absurd h b)
        refine ⟨?_, .inl ⟨a, i1, i2⟩⟩
        obtain ⟨x, hx⟩ := List.exists_mem_of_ne_nil _ b
        have := hs x hx
        rw [size_app] at this; omega
    obtain ⟨v1, v2⟩ := vsE_good (g := vis q n) (p := q) (pre := pre) (es := es) (fun e he => by
      obtain ⟨a, b⟩ := key e he
      refine ⟨a, ?_⟩
      rcases b with ⟨b1, b2, _⟩ | ⟨b1, s, _, b3⟩
      · exact .inl ⟨b1, b2⟩
      · exact .inr ⟨b1, _, b3, rfl⟩)
    refine ⟨v1, fun f => ?_⟩
    rw [v2]
    constructor
    · rintro ⟨e, he, h⟩
      obtain ⟨_, b⟩ := key e he
      rcases h with ⟨hd, hf⟩ | ⟨hd, o, ho, rfl⟩
      · rcases b with ⟨_, _, b3⟩ | ⟨b1, _⟩
        · obtain ⟨g, hg, rfl⟩ := (b3 f).1 hf
          obtain ⟨g', hg', g1, g2, rfl⟩ := mem_inD.1 hg
          refine ⟨g', hg', ?_⟩
          have := deep_eq g1
          rw [g2] at this
          simp only
          rw [Prod.mk.injEq]
          refine ⟨?_, rfl⟩
          conv => rhs; rw [this]
          simp only [app_assocB]
        · rw [hd] at b1; cases b1
      · rcases b with ⟨b1, _⟩ | ⟨_, s, b2, b3⟩
        · rw [hd] at b1; cases b1
        · rw [b3] at ho; cases ho
          exact ⟨_, b2, rfl⟩
    · rintro ⟨g, hg, rfl⟩
      have hgn : fsN g.1 ∈ es.map Ent.nm := by rw [h2]; exact nms_mem.2 ⟨g, hg, rfl⟩
      obtain ⟨e, he, hen⟩ := List.mem_map.1 hgn
      refine ⟨e, he, ?_⟩
      obtain ⟨_, b⟩ := key e he
      cases hd : deN g.1 with
      | true =>
        have hin : (rsN g.1, g.2) ∈ inD l e.nm := mem_inD.2 ⟨g, hg, hd, hen.symm, rfl⟩
        rcases b with ⟨b1, _, b3⟩ | ⟨b1, s, b2, _⟩
        · refine .inl ⟨b1, (b3 _).2 ⟨_, hin, ?_⟩⟩
          have := deep_eq hd
          rw [← hen] at this
          rw [Prod.mk.injEq]
          refine ⟨?_, rfl⟩
          conv => lhs; rw [this]
          simp only [app_assocB]
        · have h5 := hl.nob _ b2 g hg
          rw [Bool.eq_false_iff] at h5
          refine absurd ((belB_iff _ _).2 ⟨bl (rsN g.1), ?_⟩) h5
          rw [cut_deep hd, hen]
      | false =>
        have hfl := cut_flat hd
        rcases h3 e he with ⟨a, s, b2, c⟩ | ⟨_, _, c, _⟩
        · refine .inr ⟨a, _, c, ?_⟩
          have : g = (e.nm, s) := by
            have h6 : (e.nm, g.2) ∈ l := by rw [hen, hfl]; exact hg
            have h7 := (look9_some hl.nod).2 h6
            rw [(look9_some hl.nod).2 b2] at h7
            cases h7
            rw [hen, hfl]
          rw [this]; rfl
        · exact absurd (by rw [hen, hfl]) (c g hg)
theorem std_load {q : List Itm} {k : Nat} {d : Dig} {l : List Fl} (hq : PlOk q) (hl : OkL l) (h : Std q k d l) (ha : AscF l) : LdSeq q d l := by
  have e0 : (⟨#[]⟩ : ByteArray).size = 0 := rfl
  obtain ⟨h1, h2⟩ := std_vis k d l hl h 102 ⟨#[]⟩ (fun f hf => by have := path_len (hl.path f hf); omega) (by omega) (fun _ => rfl)
  have hnd := vis_nodup hq 102 d ⟨#[]⟩
  have hem : ∀ s : ByteArray, (⟨#[]⟩ : ByteArray) ++ s = s := fun s => by apply bl_inj; rw [bl_app]; rfl
  have hp : l.Perm (visW q d).1 := by
    refine (List.perm_ext_iff_of_nodup (nodup_of_map Prod.fst hl.nod) (nodup_of_map Prod.fst hnd)).2 (fun f => ?_)
    show f ∈ l ↔ f ∈ (vis q 102 d ⟨#[]⟩).1
    rw [h2]
    constructor
    · intro hf; exact ⟨f, hf, by rw [hem]⟩
    · rintro ⟨g, hg, rfl⟩; rw [hem]; exact hg
  exact ⟨by rw [← hp.length_eq]; exact hl.few, h1, hp, ha⟩
end Go.Proofs.YtmdhlkkekidknaaGreatDoor

namespace Go.Proofs.YtmdhlkkekidknaaGreatDoor
open Go.RowKit

theorem vsE_all {g : Dig → ByteArray → List Fl × Int} {p : List Itm} {pre : ByteArray} : ∀ {es : List Ent}, (vsE g p pre es).2 = 0 → ∀ e ∈ es, (pre ++ e.nm).size ≤ 100 ∧ ((e.dir = true ∧ (g e.dg (pre ++ e.nm ++ slB)).2 = 0) ∨ (e.dir = false ∧ ∃ o, getP p e.dg = some o ∧ o.kind = 1)) := by
  intro es
  induction es with
  | nil => intro _ e he; cases he
  | cons e es ih =>
    intro h x hx
    by_cases hf : 100 < (pre ++ e.nm).size
    · rw [vsE_far hf] at h; cases h
    · cases hd : e.dir with
      | true =>
        by_cases hz : (g e.dg (pre ++ e.nm ++ slB)).2 = 0
        · rw [vsE_dir hf hd (s := (g e.dg (pre ++ e.nm ++ slB)).1) (by rw [← hz])] at h
          rcases List.mem_cons.1 hx with rfl | hx
          · exact ⟨by omega, .inl ⟨hd, hz⟩⟩
          · exact ih h x hx
        · rw [vsE_sub hf hd (s := (g e.dg (pre ++ e.nm ++ slB)).1) hz rfl] at h
          exact absurd h hz
      | false =>
        cases hp : getP p e.dg with
        | none => rw [vsE_none hf hd hp] at h; cases h
        | some o =>
          by_cases hk : o.kind = 1
          · rw [vsE_file hf hd hp hk] at h
            rcases List.mem_cons.1 hx with rfl | hx
            · exact ⟨by omega, .inr ⟨hd, o, hp, hk⟩⟩
            · exact ih h x hx
          · rw [vsE_kind hf hd hp hk] at h; cases h
theorem vsE_len {g : Dig → ByteArray → List Fl × Int} {p : List Itm} {pre : ByteArray} : ∀ {es : List Ent}, (vsE g p pre es).2 = 0 → ∀ e ∈ es, e.dir = true → (g e.dg (pre ++ e.nm ++ slB)).1.length ≤ (vsE g p pre es).1.length := by
  intro es
  induction es with
  | nil => intro _ e he; cases he
  | cons e es ih =>
    intro h x hx hxd
    by_cases hf : 100 < (pre ++ e.nm).size
    · rw [vsE_far hf] at h; cases h
    · cases hd : e.dir with
      | true =>
        by_cases hz : (g e.dg (pre ++ e.nm ++ slB)).2 = 0
        · rw [vsE_dir hf hd (s := (g e.dg (pre ++ e.nm ++ slB)).1) (by rw [← hz])] at h ⊢
          simp only [List.length_append] at h ⊢
          rcases List.mem_cons.1 hx with rfl | hx
          · omega
          · have := ih h x hx hxd; omega
        · rw [vsE_sub hf hd (s := (g e.dg (pre ++ e.nm ++ slB)).1) hz rfl] at h
          exact absurd h hz
      | false =>
        cases hp : getP p e.dg with
        | none => rw [vsE_none hf hd hp] at h; cases h
        | some o =>
          by_cases hk : o.kind = 1
          · rw [vsE_file hf hd hp hk] at h ⊢
            simp only [List.length_cons] at h ⊢
            rcases List.mem_cons.1 hx with rfl | hx
            · rw [hd] at hxd; cases hxd
            · have := ih h x hx hxd; omega
          · rw [vsE_kind hf hd hp hk] at h; cases h
theorem blob_of {p : List Itm} (hp : PlOk p) {d : Dig} {o : Ob} (h : getP p d = some o) (hk : o.kind = 1) : o = blobO o.data := by
  have ho := getP_ok hp h
  cases ho.f with
  | blob k e c _ => exact c.eq (noC_zero 1 o.data []) hk rfl e
  | tree k _ _ _ => omega
  | commit k _ _ _ => omega
theorem tree_of {p : List Itm} (hp : PlOk p) {d : Dig} {o : Ob} (h : getP p d = some o) (hk : o.kind = 2) : o = treeO o.ents := by
  have ho := getP_ok hp h
  cases ho.f with
  | blob k e c _ => rcases k with k | k <;> omega
  | tree k d c _ => exact c.eq (noC_zero 2 ⟨#[]⟩ o.ents) hk d rfl
  | commit k _ _ _ => omega
theorem data_small {p : List Itm} (hp : PlOk p) (hs : ∀ i ∈ p, i.2.size ≤ 60000) {d : Dig} {s : ByteArray} (h : getP p d = some (blobO s)) : s.size ≤ 60000 := by
  have hm := hs _ ((getP_some hp).1 h).2
  simp only at hm
  rw [size_ofL] at hm
  have : (encO (blobO s)).length = (encN 1).length + ((encN (toL s).length).length + (toL s).length) := by
    show (encN 1 ++ encT (toL s)).length = _
    unfold encT
    simp only [List.length_append]
  rw [this, ← size_toL] at hm
  omega
structure OkT (l : List Fl) : Prop where
  path : ∀ f ∈ l, pathB f.1 = true
  data : ∀ f ∈ l, f.2.size ≤ 60000
  nod : (l.map Prod.fst).Nodup
  nob : ∀ f ∈ l, ∀ g ∈ l, belB f.1 g.1 = false
theorem OkT.ok {l : List Fl} (h : OkT l) (hl : l.length ≤ 200) : OkL l := ⟨h.path, h.data, hl, h.nod, h.nob⟩
theorem path_one {n : ByteArray} (h : nameB n = true) : pathB n = true := by
  rw [pathB_iff, splitS_cut, (cut_no (name_nosl h)).2]
  refine ⟨by have := (name_len h).2; omega, fun l hl => ?_⟩
  simp only [Bool.false_eq_true, if_false, List.mem_singleton] at hl
  subst hl; exact h
theorem cut_app {n r : ByteArray} (hn : NoSl n) : fsN (n ++ slB ++ r) = n ∧ rsN (n ++ slB ++ r) = r ∧ deN (n ++ slB ++ r) = true :=
  cut_of (by rw [bl_app, bl_app, bl_slB]; simp) hn
theorem path_app {n r : ByteArray} (h : nameB n = true) (hr : pathB r = true) (hs : (n ++ slB ++ r).size ≤ 100) : pathB (n ++ slB ++ r) = true := by
  obtain ⟨h1, h2, h3⟩ := cut_app (r := r) (name_nosl h)
  rw [pathB_iff, splitS_cut, h3, h1, h2]
  refine ⟨hs, fun l hl => ?_⟩
  simp only [if_true, List.mem_cons] at hl
  rcases hl with rfl | hl
  · exact h
  · exact ((pathB_iff r).1 hr).2 l hl
theorem app_injB {a b c : ByteArray} (h : a ++ b = a ++ c) : b = c := by
  have := congrArg bl h
  rw [bl_app, bl_app] at this
  exact bl_inj (List.append_cancel_left this)
theorem same_ent {es : List Ent} (hes : OkEs es) {e e' : Ent} (he : e ∈ es) (he' : e' ∈ es) (h : e.nm = e'.nm) : e = e' := by
  have hnm := asc_names hes
  clear hes
  induction es with
  | nil => cases he
  | cons x es ih =>
    have hn' := List.pairwise_cons.1 hnm
    rcases List.mem_cons.1 he with h1 | h1
    · rcases List.mem_cons.1 he' with h2 | h2
      · rw [h1, h2]
      · exact absurd (by rw [← h1]; exact h) (hn'.1 e' h2)
    · rcases List.mem_cons.1 he' with h2 | h2
      · exact absurd (by rw [← h2]; exact h.symm) (hn'.1 e h1)
      · exact ih h1 h2 hn'.2
noncomputable def contE (p : List Itm) (le : Ent → List Fl) (e : Ent) : List Fl := if e.dir = true then (le e).map (fun g => (e.nm ++ slB ++ g.1, g.2)) else match getP p e.dg with
  | some o => [(e.nm, o.data)]
  | none => []
section
variable {p : List Itm} {le : Ent → List Fl} {es : List Ent}
theorem mem_cont {e : Ent} {f : Fl} : f ∈ contE p le e ↔ (e.dir = true ∧ ∃ g ∈ le e, f = (e.nm ++ slB ++ g.1, g.2)) ∨ (e.dir = false ∧ ∃ o, getP p e.dg = some o ∧ f = (e.nm, o.data)) := by
  unfold contE
  cases hd : e.dir with
  | true =>
    simp only [if_true, List.mem_map, Bool.true_eq_false, false_and, or_false, true_and]
    constructor
    · rintro ⟨g, h1, h2⟩; exact ⟨g, h1, h2.symm⟩
    · rintro ⟨g, h1, h2⟩; exact ⟨g, h1, h2.symm⟩
  | false =>
    simp only [Bool.false_eq_true, if_false, false_and, false_or, true_and]
    cases hg : getP p e.dg with
    | none => simp
    | some o => simp
theorem cont_name {e : Ent} {f : Fl} (hn : NoSl e.nm) (h : f ∈ contE p le e) : fsN f.1 = e.nm ∧ deN f.1 = e.dir := by
  rcases mem_cont.1 h with ⟨hd, g, _, rfl⟩ | ⟨hd, o, _, rfl⟩
  · obtain ⟨h1, _, h3⟩ := cut_app (r := g.1) hn
    exact ⟨h1, h3.trans hd.symm⟩
  · obtain ⟨h1, h2⟩ := cut_no hn
    exact ⟨h1, h2.trans hd.symm⟩
theorem mem_all {f : Fl} : f ∈ es.flatMap (contE p le) ↔ ∃ e ∈ es, f ∈ contE p le e := List.mem_flatMap
variable (hes : OkEs es) (hle : ∀ e ∈ es, e.dir = true → OkT (le e) ∧ le e ≠ [] ∧ ∀ g ∈ le e, (e.nm ++ slB ++ g.1).size ≤ 100) (hfl : ∀ e ∈ es, e.dir = false → ∃ s, s.size ≤ 60000 ∧ getP p e.dg = some (blobO s))
include hes hle hfl
theorem all_nod : ((es.flatMap (contE p le)).map Prod.fst).Nodup := by
  have hnm := asc_names hes
  have hall := hes.all
  clear hes
  induction es with
  | nil => exact List.nodup_nil
  | cons e es ih =>
    rw [List.flatMap_cons, List.map_append, List.nodup_append]
    have hn' := List.pairwise_cons.1 hnm
    refine ⟨?_, ih (fun e he => hle e (by simp [he])) (fun e he => hfl e (by simp [he])) hn'.2 (fun e he => hall e (by simp [he])), ?_⟩
    · cases hd : e.dir with
      | true =>
        have h1 := (hle e (by simp) hd).1.nod
        unfold contE
        rw [if_pos hd, List.map_map]
        unfold List.Nodup at h1 ⊢
        rw [List.pairwise_map] at h1 ⊢
        exact h1.imp (fun h e => h (app_injB e))
      | false =>
        obtain ⟨s, _, h2⟩ := hfl e (by simp) hd
        unfold contE
        rw [if_neg (by rw [hd]; simp), h2]; simp
    · intro a ha b hb hab
      obtain ⟨f, hf, rfl⟩ := List.mem_map.1 ha
      obtain ⟨g, hg, rfl⟩ := List.mem_map.1 hb
      obtain ⟨e', he', hg'⟩ := mem_all.1 hg
      have h1 := (cont_name (name_nosl (hall e (by simp)).nm) hf).1
      have h2 := (cont_name (name_nosl (hall e' (by simp [he'])).nm) hg').1
      rw [hab, h2] at h1
      exact hn'.1 e' he' h1.symm
theorem all_ok : OkT (es.flatMap (contE p le)) where
  nod := all_nod hes hle hfl
  path f hf := by
    obtain ⟨e, he, h⟩ := mem_all.1 hf
    have hn := (hes.all e he).nm
    rcases mem_cont.1 h with ⟨hd, g, hg, rfl⟩ | ⟨hd, o, _, rfl⟩
    · obtain ⟨h1, _, h3⟩ := hle e he hd
      exact path_app hn (h1.path g hg) (h3 g hg)
    · exact path_one hn
  data f hf := by
    obtain ⟨e, he, h⟩ := mem_all.1 hf
    rcases mem_cont.1 h with ⟨hd, g, hg, rfl⟩ | ⟨hd, o, ho, rfl⟩
    · exact (hle e he hd).1.data g hg
    · obtain ⟨s, hs, h2⟩ := hfl e he hd
      rw [h2] at ho; cases ho; exact hs
  nob f hf g hg := by
    rw [Bool.eq_false_iff]
    intro hb
    obtain ⟨r, hr⟩ := (belB_iff _ _).1 hb
    obtain ⟨e, he, h⟩ := mem_all.1 hf
    obtain ⟨e', he', h'⟩ := mem_all.1 hg
    have hn := name_nosl (hes.all e he).nm
    have hn' := name_nosl (hes.all e' he').nm
    have hc := cont_name hn h
    have hc' := cont_name hn' h'
    rcases mem_cont.1 h with ⟨hd, x, hx, rfl⟩ | ⟨hd, o, ho, rfl⟩
    · -- a file in a directory
      simp only [bl_app, bl_slB] at hr
      have hg1 : fsN g.1 = e.nm ∧ _ := cut_of (s := g.1) (a := e.nm) (b := ub (bl x.1 ++ 47 :: r)) (by rw [hr, bl_ub]; simp) hn
      have hee : e' = e := same_ent hes he' he (hc'.1.symm.trans hg1.1)
      subst hee
      rcases mem_cont.1 h' with ⟨_, y, hy, rfl⟩ | ⟨hd', _⟩
      · have := (hle e' he hd).1.nob x hx y hy
        rw [Bool.eq_false_iff] at this
        refine this ((belB_iff _ _).2 ⟨r, ?_⟩)
        simp only [bl_app, bl_slB, List.append_assoc] at hr
        exact List.append_cancel_left (List.append_cancel_left hr)
      · rw [hd] at hd'; cases hd'
    · -- a file
      have hg1 : fsN g.1 = e.nm ∧ _ ∧ deN g.1 = true := cut_of (s := g.1) (a := e.nm) (b := ub r) (by rw [hr, bl_ub]) hn
      have hee : e' = e := same_ent hes he' he (hc'.1.symm.trans hg1.1)
      subst hee
      have := hc'.2
      rw [hg1.2.2, hd] at this; cases this
theorem all_inD {e : Ent} (he : e ∈ es) (hd : e.dir = true) : (le e).Perm (inD (es.flatMap (contE p le)) e.nm) := by
  have hok := all_ok hes hle hfl
  have hn := name_nosl (hes.all e he).nm
  have hnd : ((inD (es.flatMap (contE p le)) e.nm).map Prod.fst).Nodup := by
    unfold inD
    rw [List.map_map]
    have h1 : ((es.flatMap (contE p le)).filter (fun f => deN f.1 && decide (fsN f.1 = e.nm))).Pairwise (fun a b => a.1 ≠ b.1) := by
      have := hok.nod
      unfold List.Nodup at this
      rw [List.pairwise_map] at this
      exact this.filter _
    unfold List.Nodup
    rw [List.pairwise_map]
    refine h1.imp_of_mem ?_
    intro a b ha hb hab he
    rw [List.mem_filter, Bool.and_eq_true, decide_eq_true_eq] at ha hb
    exact hab (cut_eq ha.2.1 hb.2.1 (ha.2.2.trans hb.2.2.symm) he)
  refine (List.perm_ext_iff_of_nodup (nodup_of_map Prod.fst (hle e he hd).1.nod) (nodup_of_map Prod.fst hnd)).2 (fun f => ?_)
  rw [mem_inD]
  constructor
  · intro hf
    obtain ⟨h1, h2, h3⟩ := cut_app (r := f.1) hn
    exact ⟨(e.nm ++ slB ++ f.1, f.2), mem_all.2 ⟨e, he, mem_cont.2 (.inl ⟨hd, f, hf, rfl⟩)⟩, h3, h1, by rw [h2]⟩
  · rintro ⟨g, hg, h1, h2, rfl⟩
    obtain ⟨e', he', h⟩ := mem_all.1 hg
    have hc := cont_name (name_nosl (hes.all e' he').nm) h
    have hee : e' = e := same_ent hes he' he (hc.1.symm.trans h2)
    subst hee
    rcases mem_cont.1 h with ⟨_, y, hy, rfl⟩ | ⟨hd', _⟩
    · obtain ⟨_, h5, _⟩ := cut_app (r := y.1) hn
      rw [h5]; exact hy
    · rw [hd] at hd'; cases hd'
theorem all_names : es.map Ent.nm = nmsP (es.flatMap (contE p le)) := by
  have ha : Asc (es.map Ent.nm) := by
    unfold Asc
    rw [List.pairwise_map, List.pairwise_iff_getElem]
    intro i j hi hj hij
    have key : ∀ k, i + k + 1 < es.length → ∀ b, es[i + k + 1]? = some b → less es[i].nm b.nm = true := by
      intro k
      induction k with
      | zero => intro hk b hb; exact hes.asc i _ _ (List.getElem?_eq_getElem hi) hb
      | succ k ih =>
        intro hk b hb
        have h1 := ih (by omega) _ (List.getElem?_eq_getElem (by omega))
        exact lessB_trans h1 (hes.asc (i + k + 1) _ _ (List.getElem?_eq_getElem (by omega)) (by rw [show i + k + 1 + 1 = i + (k + 1) + 1 by omega]; exact hb))
    exact key (j - i - 1) (by omega) _ (by rw [show i + (j - i - 1) + 1 = j by omega]; exact List.getElem?_eq_getElem hj)
  refine asc_ext ha (nms_asc _) (fun x => ?_)
  rw [nms_mem, List.mem_map]
  constructor
  · rintro ⟨e, he, rfl⟩
    have hn := name_nosl (hes.all e he).nm
    cases hd : e.dir with
    | true =>
      obtain ⟨g, hg⟩ := List.exists_mem_of_ne_nil _ (hle e he hd).2.1
      have hm := mem_cont (p := p) (le := le).2 (.inl ⟨hd, g, hg, rfl⟩)
      exact ⟨_, mem_all.2 ⟨e, he, hm⟩, (cont_name hn hm).1.symm⟩
    | false =>
      obtain ⟨s, _, h2⟩ := hfl e he hd
      have hm := mem_cont (p := p) (le := le).2 (.inr ⟨hd, _, h2, rfl⟩)
      exact ⟨_, mem_all.2 ⟨e, he, hm⟩, (cont_name hn hm).1.symm⟩
  · rintro ⟨f, hf, rfl⟩
    obtain ⟨e, he, h⟩ := mem_all.1 hf
    exact ⟨e, he, (cont_name (name_nosl (hes.all e he).nm) h).1.symm⟩
end
theorem vis_std {p : List Itm} (hp : PlOk p) (hs : ∀ i ∈ p, i.2.size ≤ 60000) : ∀ (n : Nat) (d : Dig) (pre : ByteArray), (vis p n d pre).2 = 0 → (vis p n d pre).1.length ≤ 200 →
    ∃ l, OkL l ∧ Std p n d l ∧ (∀ f ∈ l, (pre ++ f.1).size ≤ 100) ∧ (pre ≠ ⟨#[]⟩ → l ≠ []) ∧ ∀ f, f ∈ (vis p n d pre).1 ↔ ∃ g ∈ l, f = (pre ++ g.1, g.2) := by
  intro n
  induction n with
  | zero => intro d pre h; rw [vis] at h; cases h
  | succ n ih =>
    intro d pre h hlen
    cases hg : getP p d with
    | none => rw [vis_none hg] at h; cases h
    | some o =>
      by_cases hk2 : o.kind ≠ 2
      · rw [vis_kind hg hk2] at h; cases h
      have hk : o.kind = 2 := Decidable.not_not.1 hk2
      by_cases he : o.ents = [] ∧ pre ≠ ⟨#[]⟩
      · rw [vis_empty hg hk he.1 he.2] at h; cases h
      obtain ⟨es, hes0⟩ : ∃ es, o.ents = es := ⟨_, rfl⟩
      have hto := tree_of hp hg hk
      rw [hes0] at hto
      have hes : OkEs es := by rw [← hes0]; exact okO_tree (getP_ok hp hg) hk
      rw [vis_ents hg hk he, hes0] at h hlen ⊢
      rw [hes0] at he
      have hall := vsE_all h
      have hsub : ∀ e ∈ es, e.dir = true → ∃ l, OkL l ∧ Std p n e.dg l ∧ (∀ f ∈ l, (pre ++ e.nm ++ slB ++ f.1).size ≤ 100) ∧ (pre ++ e.nm ++ slB ≠ ⟨#[]⟩ → l ≠ []) ∧ ∀ f, f ∈ (vis p n e.dg (pre ++ e.nm ++ slB)).1 ↔ ∃ g ∈ l, f = (pre ++ e.nm ++ slB ++ g.1, g.2) := fun e he hd => by
        obtain ⟨_, h2⟩ := hall e he
        rcases h2 with ⟨_, h2⟩ | ⟨h2, _⟩
        · exact ih _ _ h2 (Nat.le_trans (vsE_len h e he hd) hlen)
        · rw [hd] at h2; cases h2
      obtain ⟨le, hle⟩ : ∃ le : Ent → List Fl, ∀ e ∈ es, e.dir = true → OkL (le e) ∧ Std p n e.dg (le e) ∧ (∀ f ∈ le e, (pre ++ e.nm ++ slB ++ f.1).size ≤ 100) ∧ (pre ++ e.nm ++ slB ≠ ⟨#[]⟩ → le e ≠ []) ∧ ∀ f, f ∈ (vis p n e.dg (pre ++ e.nm ++ slB)).1 ↔ ∃ g ∈ le e, f = (pre ++ e.nm ++ slB ++ g.1, g.2) := by
        refine ⟨fun e => Classical.epsilon (fun l => OkL l ∧ Std p n e.dg l ∧ (∀ f ∈ l, (pre ++ e.nm ++ slB ++ f.1).size ≤ 100) ∧ (pre ++ e.nm ++ slB ≠ ⟨#[]⟩ → l ≠ []) ∧ ∀ f, f ∈ (vis p n e.dg (pre ++ e.nm ++ slB)).1 ↔ ∃ g ∈ l, f = (pre ++ e.nm ++ slB ++ g.1, g.2)), fun e he hd => ?_⟩
        exact Classical.epsilon_spec (hsub e he hd)
      have hnz : ∀ e : Ent, pre ++ e.nm ++ slB ≠ ⟨#[]⟩ := fun e h0 => by
        have := congrArg ByteArray.size h0
        rw [size_app] at this
        have e1 : slB.size = 1 := rfl
        have e2 : (⟨#[]⟩ : ByteArray).size = 0 := rfl
        omega
      have hle2 : ∀ e ∈ es, e.dir = true → OkT (le e) ∧ le e ≠ [] ∧ ∀ g ∈ le e, (e.nm ++ slB ++ g.1).size ≤ 100 := fun e he hd => by
        obtain ⟨h1, _, h3, h4, _⟩ := hle e he hd
        refine ⟨⟨h1.path, h1.data, h1.nod, h1.nob⟩, h4 (hnz e), fun g hg => ?_⟩
        have := h3 g hg
        rw [app_assocB, app_assocB, size_app] at this
        rw [app_assocB]; omega
      have hfl : ∀ e ∈ es, e.dir = false → ∃ s, s.size ≤ 60000 ∧ getP p e.dg = some (blobO s) := fun e he hd => by
        obtain ⟨_, h2⟩ := hall e he
        rcases h2 with ⟨h2, _⟩ | ⟨_, o', ho', hk'⟩
        · rw [hd] at h2; cases h2
        · have hb := blob_of hp ho' hk'
          rw [hb] at ho'
          exact ⟨_, data_small hp hs ho', ho'⟩
      have hok := all_ok (p := p) hes hle2 hfl
      have hin := fun e he hd => all_inD (p := p) hes hle2 hfl (e := e) he hd
      have hnms := all_names (p := p) hes hle2 hfl
      obtain ⟨v1, v2⟩ := vsE_good (g := vis p n) (p := p) (pre := pre) hall
      have hmem : ∀ f, f ∈ (vsE (vis p n) p pre es).1 ↔ ∃ g ∈ es.flatMap (contE p le), f = (pre ++ g.1, g.2) := fun f => by
        rw [v2]
        constructor
        · rintro ⟨e, he, h⟩
          rcases h with ⟨hd, hf⟩ | ⟨hd, o', ho', rfl⟩
          · obtain ⟨g, hg, rfl⟩ := ((hle e he hd).2.2.2.2 f).1 hf
            exact ⟨(e.nm ++ slB ++ g.1, g.2), mem_all.2 ⟨e, he, mem_cont.2 (.inl ⟨hd, g, hg, rfl⟩)⟩, by simp only [app_assocB]⟩
          · exact ⟨(e.nm, o'.data), mem_all.2 ⟨e, he, mem_cont.2 (.inr ⟨hd, o', ho', rfl⟩)⟩, rfl⟩
        · rintro ⟨g, hg, rfl⟩
          obtain ⟨e, he, h⟩ := mem_all.1 hg
          rcases mem_cont.1 h with ⟨hd, x, hx, rfl⟩ | ⟨hd, o', ho', rfl⟩
          · exact ⟨e, he, .inl ⟨hd, ((hle e he hd).2.2.2.2 _).2 ⟨x, hx, by simp only [app_assocB]⟩⟩⟩
          · exact ⟨e, he, .inr ⟨hd, o', ho', rfl⟩⟩
      have hnod := vis_nodup hp (n + 1) d pre
      rw [vis_ents hg hk (by rw [hes0]; exact he), hes0] at hnod
      have hpm : ((es.flatMap (contE p le)).map (fun g => (pre ++ g.1, g.2))).Perm (vsE (vis p n) p pre es).1 := by
        refine (List.perm_ext_iff_of_nodup ?_ (nodup_of_map Prod.fst hnod)).2 (fun f => ?_)
        · have h1 := nodup_of_map Prod.fst hok.nod
          unfold List.Nodup at h1 ⊢
          rw [List.pairwise_map]
          refine h1.imp ?_
          intro a b hab h0
          rw [Prod.mk.injEq] at h0
          exact hab (Prod.ext (app_injB h0.1) h0.2)
        · rw [hmem, List.mem_map]
          constructor
          · rintro ⟨g, h1, h2⟩; exact ⟨g, h1, h2.symm⟩
          · rintro ⟨g, h1, h2⟩; exact ⟨g, h1, h2.symm⟩
      have hfew : (es.flatMap (contE p le)).length ≤ 200 := by
        have := hpm.length_eq
        rw [List.length_map] at this
        omega
      refine ⟨es.flatMap (contE p le), hok.ok hfew, ⟨es, by rw [hg, hto], hnms, fun e he => ?_⟩, fun f hf => ?_, fun h0 h1 => ?_, hmem⟩
      · cases hd : e.dir with
        | true =>
          refine .inr ⟨hd, fun h0 => ?_, fun f hf h0 => ?_, (hle e he hd).2.1.perm (hin e he hd)⟩
          · have := (hin e he hd).length_eq
            rw [h0] at this
            exact (hle2 e he hd).2.1 (List.eq_nil_of_length_eq_zero this)
          · obtain ⟨e', he', h⟩ := mem_all.1 hf
            have hn := name_nosl (hes.all e he).nm
            have hc := cont_name (name_nosl (hes.all e' he').nm) h
            rw [h0, (cut_no hn).1, (cut_no hn).2] at hc
            have hee : e' = e := same_ent hes he' he hc.1.symm
            rw [hee, hd] at hc; cases hc.2
        | false =>
          obtain ⟨s, _, h2⟩ := hfl e he hd
          exact .inl ⟨hd, s, mem_all.2 ⟨e, he, mem_cont.2 (.inr ⟨hd, _, h2, rfl⟩)⟩, h2⟩
      · obtain ⟨e, he, h⟩ := mem_all.1 hf
        rcases mem_cont.1 h with ⟨hd, x, hx, rfl⟩ | ⟨hd, o', ho', rfl⟩
        · have := (hle e he hd).2.2.1 x hx
          simp only [app_assocB] at this ⊢
          exact this
        · exact (hall e he).1
      · cases es with
        | nil => exact he ⟨rfl, h0⟩
        | cons e es =>
          have : e.nm ∈ (e :: es).map Ent.nm := by simp
          rw [hnms, nms_mem] at this
          obtain ⟨f, hf, _⟩ := this
          rw [h1] at hf; cases hf
theorem load_std {p : List Itm} (hp : PlOk p) (hs : ∀ i ∈ p, i.2.size ≤ 60000) {d : Dig} {fs : List Fl} (h : LdSeq p d fs) : OkL fs ∧ Std p 102 d fs := by
  obtain ⟨l, h1, h2, _, _, h5⟩ := vis_std hp hs 102 d ⟨#[]⟩ h.ok h.few
  have hem : ∀ s : ByteArray, (⟨#[]⟩ : ByteArray) ++ s = s := fun s => by apply bl_inj; rw [bl_app]; rfl
  have hnd := vis_nodup hp 102 d ⟨#[]⟩
  have hpm : l.Perm fs := by
    refine List.Perm.trans ?_ h.perm.symm
    refine (List.perm_ext_iff_of_nodup (nodup_of_map Prod.fst h1.nod) (nodup_of_map Prod.fst hnd)).2 (fun f => ?_)
    show f ∈ l ↔ f ∈ (vis p 102 d ⟨#[]⟩).1
    rw [h5]
    constructor
    · intro hf; exact ⟨f, hf, by rw [hem]⟩
    · rintro ⟨g, hg, rfl⟩; rw [hem]; exact hg
  exact ⟨h1.perm hpm, h2.perm hpm⟩
end Go.Proofs.YtmdhlkkekidknaaGreatDoor

namespace Go.Proofs.YtmdhlkkekidknaaGreatDoor
open Go.RowKit

theorem entN_mem {es : List Ent} (h : OkEs es) {e : Ent} (he : e ∈ es) : entN es e.nm = some e := by
  obtain ⟨j, hj⟩ := List.mem_iff_getElem?.1 he
  refine entN_at (j := j) (fun _ x hi hx hn => ?_) hj rfl
  have hnm := asc_names h
  rw [List.pairwise_iff_getElem] at hnm
  obtain ⟨h1, rfl⟩ := List.getElem?_eq_some_iff.1 hx
  obtain ⟨h2, rfl⟩ := List.getElem?_eq_some_iff.1 hj
  exact hnm _ j h1 h2 hi hn
theorem entN_none {es : List Ent} {n : ByteArray} (h : n ∉ es.map Ent.nm) : entN es n = none :=
  entN_no (fun _ x hx hn => h (List.mem_map.2 ⟨x, List.mem_of_getElem? hx, hn⟩))
theorem std_get {q : List Itm} (hq : PlOk q) : ∀ (k : Nat) (d : Dig) (l : List Fl), OkL l → Std q k d l → ∀ (m : Nat) (s : ByteArray), pathB s = true → s.size < m →
    (∀ b, (s, b) ∈ l → getF q m d s = (b, 0)) ∧ ((∀ f ∈ l, f.1 ≠ s) → (getF q m d s).2 ≠ 0 ∧ ((∀ f ∈ l, belB f.1 s = false ∧ belB s f.1 = false) → (getF q m d s).2 = 8)) := by
  intro k
  induction k with
  | zero => intro d l _ h; exact h.elim
  | succ k ih =>
    rintro d l hl hst m s hps hsm
    have hst0 := hst
    obtain ⟨es, h1, h2, h3⟩ := hst
    obtain ⟨m, rfl⟩ : ∃ m', m = m' + 1 := ⟨m - 1, by omega⟩
    have hes : OkEs es := okO_tree (o := treeO es) (getP_ok hq h1) rfl
    by_cases hmem : fsN s ∈ es.map Ent.nm
    · obtain ⟨e, he, hen⟩ := List.mem_map.1 hmem
      have hent : entN (treeO es).ents (fsN s) = some e := by rw [← hen]; exact entN_mem hes he
      rcases h3 e he with ⟨a, b, c, f⟩ | ⟨a, b, c, f⟩
      · cases hd : deN s with
        | true =>
          have hg : getF q (m + 1) d s = (⟨#[]⟩, 9) := getF_dir h1 rfl hent (by rw [a, hd]; simp)
          have hb : belB e.nm s = true := (belB_iff _ _).2 ⟨bl (rsN s), by rw [hen]; exact cut_deep hd⟩
          refine ⟨fun b' hb' => ?_, fun hno => ⟨by rw [hg]; simp, fun hall => ?_⟩⟩
          · have := hl.nob _ c _ hb'
            simp only at this
            rw [hb] at this; cases this
          · have := (hall _ c).1
            simp only at this
            rw [hb] at this; cases this
        | false =>
          have hfl := cut_flat hd
          have hg : getF q (m + 1) d s = (b, 0) := by rw [getF_file h1 rfl hent a hd, datP_some f rfl]; rfl
          have hes' : e.nm = s := by rw [hen, hfl]
          rw [hes'] at c
          refine ⟨fun b' hb' => ?_, fun hno => absurd rfl (hno _ c)⟩
          have h4 := (look9_some hl.nod).2 c
          rw [(look9_some hl.nod).2 hb'] at h4
          cases h4; exact hg
      · cases hd : deN s with
        | true =>
          have hg : getF q (m + 1) d s = getF q m e.dg (rsN s) := getF_sub h1 rfl hent a hd
          have hr := path_rest hps hd
          obtain ⟨i1, i2⟩ := ih e.dg (inD l e.nm) (hl.sub _) f m (rsN s) hr.1 (by omega)
          have hse := deep_eq hd
          refine ⟨fun b' hb' => ?_, fun hno => ?_⟩
          · rw [hg]; exact i1 b' (mem_inD.2 ⟨_, hb', hd, hen.symm, rfl⟩)
          · rw [hg]
            obtain ⟨j1, j2⟩ := i2 (fun x hx h0 => by
              obtain ⟨g, hg, g1, g2, rfl⟩ := mem_inD.1 hx
              exact hno g hg (cut_eq g1 hd (g2.trans hen) h0))
            refine ⟨j1, fun hall => j2 (fun x hx => ?_)⟩
            obtain ⟨g, hg, g1, g2, rfl⟩ := mem_inD.1 hx
            obtain ⟨k1, k2⟩ := hall g hg
            refine ⟨?_, ?_⟩
            · rw [Bool.eq_false_iff] at k1 ⊢
              intro h0
              obtain ⟨r, hr⟩ := (belB_iff _ _).1 h0
              simp only at hr
              refine k1 ((belB_iff _ _).2 ⟨r, ?_⟩)
              rw [cut_deep hd, cut_deep g1, g2, hen, hr]; simp
            · rw [Bool.eq_false_iff] at k2 ⊢
              intro h0
              obtain ⟨r, hr⟩ := (belB_iff _ _).1 h0
              simp only at hr
              refine k2 ((belB_iff _ _).2 ⟨r, ?_⟩)
              rw [cut_deep hd, cut_deep g1, g2, hen, hr]; simp
        | false =>
          have hg : getF q (m + 1) d s = (⟨#[]⟩, 9) := getF_dir h1 rfl hent (by rw [a, hd]; simp)
          have hfl := cut_flat hd
          refine ⟨fun b' hb' => absurd (by rw [hen, hfl]) (c _ hb'), fun hno => ⟨by rw [hg]; simp, fun hall => ?_⟩⟩
          obtain ⟨x, hx⟩ := List.exists_mem_of_ne_nil _ b
          obtain ⟨g, hg, g1, g2, rfl⟩ := mem_inD.1 hx
          have := (hall g hg).2
          rw [Bool.eq_false_iff] at this
          refine absurd ((belB_iff _ _).2 ⟨bl (rsN g.1), ?_⟩) this
          rw [cut_deep g1, g2, hen, hfl]
    · have hg : getF q (m + 1) d s = (⟨#[]⟩, 8) := getF_ent h1 rfl (entN_none hmem)
      refine ⟨fun b hb => ?_, fun _ => ⟨by rw [hg]; simp, fun _ => by rw [hg]⟩⟩
      refine absurd ?_ hmem
      rw [h2, nms_mem]
      exact ⟨_, hb, rfl⟩
end Go.Proofs.YtmdhlkkekidknaaGreatDoor

namespace Go.Proofs.YtmdhlkkekidknaaGreatDoor
open Go.RowKit

theorem tchk_up : ∀ {p : Option ByteArray} {fs : List Fl}, tchk p fs = 0 → (∀ f ∈ fs, upB p f.1 = true) ∧ AscF fs ∧ ∀ f ∈ fs, pathB f.1 = true
  | p, [], _ => ⟨fun f h => (by cases h), List.Pairwise.nil, fun f h => (by cases h)⟩
  | p, f :: r, h => by
    unfold tchk at h
    by_cases h1 : pathB f.1 = true
    · rw [if_pos h1] at h
      by_cases h2 : upB p f.1 = true
      · rw [if_pos h2] at h
        obtain ⟨i1, i2, i3⟩ := tchk_up h
        refine ⟨fun g hg => ?_, List.pairwise_cons.2 ⟨fun g hg => i1 g hg, i2⟩, fun g hg => ?_⟩
        · rcases List.mem_cons.1 hg with rfl | hg
          · exact h2
          · cases p with
            | none => rfl
            | some q => exact lessB_trans h2 (i1 g hg)
        · rcases List.mem_cons.1 hg with rfl | hg
          · exact h1
          · exact i3 g hg
      · rw [if_neg h2] at h; cases h
    · rw [if_neg h1] at h; cases h
theorem tchk_back : ∀ {p : Option ByteArray} {fs : List Fl}, (∀ f ∈ fs, upB p f.1 = true) → AscF fs → (∀ f ∈ fs, pathB f.1 = true) → tchk p fs = 0
  | p, [], _, _, _ => rfl
  | p, f :: r, h1, h2, h3 => by
    unfold tchk
    rw [if_pos (h3 f (by simp)), if_pos (h1 f (by simp))]
    exact tchk_back (fun g hg => h2.head hg) h2.tail (fun g hg => h3 g (by simp [hg]))
theorem ck_ok {fs : List Fl} (h : TckR fs 0) (hd : ∀ f ∈ fs, f.2.size ≤ 60000) : OkL fs ∧ AscF fs := by
  rcases h with ⟨_, h⟩ | ⟨_, h1, h2⟩ | ⟨h1, h2, h3⟩
  · cases h
  · exact absurd h2.symm h1
  · obtain ⟨_, h4, h5⟩ := tchk_up h2
    rcases h3 with ⟨_, h⟩ | ⟨h3, _⟩
    · cases h
    · refine ⟨⟨h5, hd, h1, asc_nodup h4, fun f hf g hg => ?_⟩, h4⟩
      cases hb : belB f.1 g.1 with
      | false => rfl
      | true => exact absurd (dirE_of hf hg hb) h3
theorem ck_back {fs : List Fl} (h : OkL fs) (ha : AscF fs) : TckR fs 0 :=
  .inr (.inr ⟨h.few, tchk_back (fun _ _ => rfl) ha h.path, .inr ⟨dirE_no h.nob, rfl⟩⟩)
theorem ck_with {l : List Fl} {f : Fl} {err : Int} (hl : OkL l) (ha : AscF l) (hn : l.length ≤ 199) (hp : pathB f.1 = true) (h : TckR (withF l f) err) : err = 0 ∨ err = 7 := by
  have hlen := withF_len l f
  have ht : tchk none (withF l f) = 0 := tchk_back (fun _ _ => rfl) (asc_withF ha f) (fun g hg => by
    rcases mem_withF.1 hg with ⟨h1, _⟩ | rfl
    · exact hl.path g h1
    · exact hp)
  rcases h with ⟨h, _⟩ | ⟨_, h1, _⟩ | ⟨_, _, h3⟩
  · omega
  · exact absurd ht h1
  · rcases h3 with ⟨_, h⟩ | ⟨_, h⟩
    · exact .inr h
    · exact .inl h
end Go.Proofs.YtmdhlkkekidknaaGreatDoor

namespace Go.Proofs.YtmdhlkkekidknaaGreatDoor
open Go.RowKit

theorem Sl.fc {w : World} {B n k : Nat} {A : Option Addr} {l : List FCh} (h : Sl w B 5 A n (flat fcC l)) (hk : k < n) :
    ∃ b off x, A = some ⟨b, off, none⟩ ∧ b < B ∧ l[k]? = some x ∧ w.cell? ⟨b, off + k * 5, none⟩ = some (.string x.path) ∧ w.cell? ⟨b, off + k * 5 + 1, none⟩ = some (.bool x.ho) ∧ w.cell? ⟨b, off + k * 5 + 2, none⟩ = some (.bool x.hn) ∧ w.cell? ⟨b, off + k * 5 + 3, none⟩ = some (.string x.old) ∧ w.cell? ⟨b, off + k * 5 + 4, none⟩ = some (.string x.new) := by
  obtain ⟨b, off, x, e, hb, hx, hc⟩ := h.at_ fcC_len (by omega) hk
  exact ⟨b, off, x, e, hb, hx, hc 0 _ rfl, hc 1 _ rfl, hc 2 _ rfl, hc 3 _ rfl, hc 4 _ rfl⟩
end Go.Proofs.YtmdhlkkekidknaaGreatDoor
