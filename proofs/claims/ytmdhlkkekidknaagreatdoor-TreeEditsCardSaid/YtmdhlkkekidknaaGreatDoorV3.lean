/-
  Lemmas: The program's reader of objects: entry, and lists of entries and of digests; on what was written. A slice of bytes that may be appended to, whatever mark its block bears behind its last cell ([]byte(s) too): what it holds, and append. As in Range2; moreover the iterator knows where memory ends when it is entered (hz), and what a round keeps (Kp) has to be shown of the loop's own record only where that record lies. For graph.reached's walk: laws inside a fence (append onto a queue, a store into a map), and what the iterator and its rounds leave alone. graph.reached's iterator, walked. graph.reached and graph.returns. graph.edges: the labels on which targets depend directly, and those that depend on them. graph.edges, walked. graph.Cycle, walked. A region that draws its order, whose first n operations only add to memory: whatever the order, each operation's value keeps its word (a predicate that abides what is added), and the rest is carried out in the text's order. A region that draws its order, some of whose operations are guarded, and whose first n operations only add to memory: whatever the order, each operation's value keeps its word. As in Stable, with guards. graph.valid. graph.Order. object.Check of a blob. Drawn regions, some of whose values are described, not given. Directories, the paths of build files and of modules. Lists of a known length, taken apart.
-/
import Derived.Deep.AppendSrc
import Derived.Deep.Upon
import Derived.Lib.ConvBytes
import Derived.Laws.IdiomStrings
import Derived.Laws.BytesArg
import Derived.OwnWalkIn
import Derived.Scope
import Derived.ControlIn
import Derived.Test.YtmdhlkkekidknaaGreatDoorProg
import Derived.Sort.LoopGhostIn
import Derived.Maps.OwnIn
import Derived.StillTail
import Derived.WalkKit
import Derived.IntWalk
import Derived.Shelf.Strings.LastIndex
import Derived.Lib.LastIndexByte
import Derived.Test.YtmdhlkkekidknaaGreatDoorV2
import Derived.Test.YtmdhlkkekidknaaGreatDoorV1

namespace Go.Proofs.YtmdhlkkekidknaaGreatDoor
open Go.RowKit

def enC (e : Ent) : List Value := [.string e.nm, .bool e.dir, .int .u64 e.dg.1, .int .u64 e.dg.2]
def entV (e : Ent) : Value := .agg #[.string e.nm, .bool e.dir, .int .u64 e.dg.1, .int .u64 e.dg.2]
def dgC (d : Dig) : List Value := [.int .u64 d.1, .int .u64 d.2]
theorem enC_len (e : Ent) : (enC e).length = 4 := rfl
theorem dgC_len (d : Dig) : (dgC d).length = 2 := rfl
theorem infoEnt : (Tryz.prog.info? 102).map (fun i => (i.zero, i.size, i.bytes)) = some (some (.agg #[.string ⟨#[]⟩, .bool false, .int .u64 0, .int .u64 0]), 4, 40) := by kernel_rfl
theorem infoDg : (Tryz.prog.info? 30).map (fun i => (i.zero, i.size, i.bytes)) = some (some (.agg #[.int .u64 0, .int .u64 0]), 2, 16) := by kernel_rfl
theorem res_cellE {fn : Func} {c : Tmp} (h : fn.results = #[.cell c 102]) {w : World} {a : Array Value} {b : Nat} {x y z u : Value} (ha : a[c]?.getD undef = .pointer (some ⟨b, 0, none⟩)) (hk : Bk w b 102 #[x, y, z, u]) :
    (results fn a).run Tryz.prog w = .ok (.agg #[x, y, z, u]) w := by
  have h0 := hk.cell 0; have h1 := hk.cell 1; have h2 := hk.cell 2; have h3 := hk.cell 3
  simp at h0 h1 h2 h3
  simp [results, h, ha, go_sem, h0, h1, h2, h3]
theorem Bk.four {w : World} {b : Nat} {t : TypeId} {x y z u : Value} (h : Bk w b t #[x, y, z, u]) : w.cell? ⟨b, 0, none⟩ = some x ∧ w.cell? ⟨b, 1, none⟩ = some y ∧ w.cell? ⟨b, 2, none⟩ = some z ∧ w.cell? ⟨b, 3, none⟩ = some u := by
  have h0 := h.cell 0; have h1 := h.cell 1; have h2 := h.cell 2; have h3 := h.cell 3
  simp at h0 h1 h2 h3
  exact ⟨h0, h1, h2, h3⟩
theorem bk_set4 {w : World} {b : Nat} {t : TypeId} {x y z u : Value} (h : Bk w b t #[x, y, z, u]) (x' y' z' u' : Value) : Bk ((((w.setCell ⟨b, 0, none⟩ x').setCell ⟨b, 1, none⟩ y').setCell ⟨b, 2, none⟩ z').setCell ⟨b, 3, none⟩ u') b t #[x', y', z', u'] := by
  have := (((h.set 0 x').set 1 y').set 2 z').set 3 u'
  simpa using this
theorem Apd.gb {w w' : World} {base size n c b : Nat} {e : TypeId} {A : Option Addr} {xs : List Value} (h : Apd w base e size A n c xs) (hg : Gb (fun g => g = b) w w') (hb : b < base) : Apd w' base e size A n c xs := by
  rcases h with h | h
  · refine .inl (h.kept (row := some b) ⟨hg.os, hg.tape, hg.output, hg.size, fun k hk hn => hg.block k hk (fun e => hn (by rw [e]))⟩ ?_)
    cases hv : (Value.slice A n c).ownBlock with
    | none => exact .inl rfl
    | some k =>
      have := (h.lt k hv).1
      exact .inr (fun e => by cases e; omega)
  · exact .inr h
set_option maxRecDepth 100000 in
set_option maxHeartbeats 2000000 in
theorem oentry_any (b : Nat) (en : Ent) (r : Bytes) (w : World) (hk : Rdr w b (encE en ++ r)) (hok : OkEnt en) (hl : (encE en ++ r).length ≤ 1000000) :
    Calls Tryz.prog 159 #[.pointer (some ⟨b, 0, none⟩)] w (RdE (entV en) b r w) := by
  have hns := nameB_size hok.nm
  have hbw := Bk.lt hk
  obtain ⟨nm, dir, dg⟩ := en
  obtain ⟨d1, d2⟩ := dg
  obtain ⟨k, hkd⟩ : ∃ k, (if dir = true then 1 else 0 : Nat) = k := ⟨_, rfl⟩
  have hk1 : k ≤ 1 := by rw [← hkd]; split <;> omega
  have HDR : Hid (dir = decide (k = 1)) := by show _ = _; rw [← hkd]; cases dir <;> rfl
  unfold encE at hk hl
  simp only [hkd, List.append_assoc] at hk hl
  have HWD : Hid (WfD (d1, d2)) := hok.dg
  simp only at hns
  have hl2 : (encN k ++ (digB (d1, d2) ++ r)).length ≤ 1000000 := by rw [List.length_append] at hl; omega
  have hl3 : (digB (d1, d2) ++ r).length ≤ 1000000 := by rw [List.length_append] at hl2; omega
  have HL2 := Lib.hid hl2; have HL3 := Lib.hid hl3
  obtain ⟨W1, hW1⟩ : ∃ W, w.alloc (.cells #[.string ⟨#[]⟩, .bool false, .int .u64 0, .int .u64 0] 102) = W := ⟨_, rfl⟩
  have HZ1 : Hid (Bk W1 w.heap.size 102 #[.string ⟨#[]⟩, .bool false, .int .u64 0, .int .u64 0]) := by rw [← hW1]; exact Bk.new w _ _
  have hb1 : Below w.heap.size w W1 := by rw [← hW1]; exact (Below.refl _ w).alloc (Nat.le_refl _) _
  have zW1 : W1.heap.size = w.heap.size + 1 := by rw [← hW1]; simp
  have HG1 : Hid (Gb (fun g => g = b) w W1) := Gb.of_below hb1
  have HS := Lib.hid (ostring_any b nm (encN k ++ (digB (d1, d2) ++ r)) W1 (Bk.below hk hb1 hbw) (by omega) hl)
  clear hk hl hl2 hl3 hok hkd hb1
  go_enter Tryz.func159, Tryz.ntmps159
  go_wp2_with fail
  refine HS.out.mono ?_
  rintro e w2 ⟨rfl, hr2, hg2⟩
  have HR2 := Lib.hid hr2
  have z2 := hg2.size
  have HG2 : Hid (Gb (fun g => g = b) w w2) := HG1.out.trans hg2
  have HZ2 := Lib.hid (hg2.bk HZ1.out (by show ¬ w.heap.size = b; omega))
  clear hr2 hg2 hW1 HS
  obtain ⟨W3, hW3⟩ : ∃ W, w2.alloc (.cells #[.string nm, .bool false, .int .u64 0, .int .u64 0] 102) = W := ⟨_, rfl⟩
  have HY3 : Hid (Bk W3 w2.heap.size 102 #[.string nm, .bool false, .int .u64 0, .int .u64 0]) := by rw [← hW3]; exact Bk.new w2 _ _
  have hb3 : Below w2.heap.size w2 W3 := by rw [← hW3]; exact (Below.refl _ w2).alloc (Nat.le_refl _) _
  have zW3 : W3.heap.size = w2.heap.size + 1 := by rw [← hW3]; simp
  have HG3 : Hid (Gb (fun g => g = b) w W3) := HG2.out.trans (Gb.of_below hb3)
  have HZ3 := Lib.hid (HZ2.out.below hb3 (by omega))
  have HN := Lib.hid (onumber_any b k (digB (d1, d2) ++ r) W3 (Bk.below HR2.out hb3 (by omega)) (by omega) HL2.out)
  have HW3 := Lib.hid hW3
  clear hb3 hW3
  go_wp2_with fail
  rw [HW3.out]
  refine HN.out.mono ?_
  rintro e w4 ⟨rfl, hr4, hg4⟩
  have z4 := hg4.size
  have HG4 : Hid (Gb (fun g => g = b) w w4) := HG3.out.trans hg4
  have HZ4 := Lib.hid (hg4.bk HZ3.out (by show ¬ w.heap.size = b; omega))
  have HY4 := Lib.hid (hg4.bk HY3.out (by show ¬ w2.heap.size = b; omega))
  have HR4 := Lib.hid hr4
  obtain ⟨x0, x1, f0, f1⟩ := Bk.two hr4
  obtain ⟨y0, y1, y2, y3⟩ := HY4.out.four
  have g1 := HY4.out.free 1
  obtain ⟨W5, hW5⟩ : ∃ W, (w4.setCell ⟨b, 1, none⟩ (.bool false)).setCell ⟨w2.heap.size, 1, none⟩ (.bool (decide (k = 1))) = W := ⟨_, rfl⟩
  have hne1 : b ≠ w2.heap.size := by omega
  have hne2 : b ≠ w.heap.size := by omega
  have HR5 : Hid (Rdr W5 b (digB (d1, d2) ++ r)) := by
    rw [← hW5]
    have := (HR4.out.set 1 (.bool false)).far (p := ⟨w2.heap.size, 1, none⟩) hne1 (.bool (decide (k = 1)))
    show Bk _ _ _ _; simpa using this
  have HY5 : Hid (Bk W5 w2.heap.size 102 #[.string nm, .bool (decide (k = 1)), .int .u64 0, .int .u64 0]) := by
    rw [← hW5]
    have := (HY4.out.far (p := ⟨b, 1, none⟩) hne1.symm (.bool false)).set 1 (.bool (decide (k = 1)))
    show Bk _ _ _ _; simpa using this
  have HZ5 : Hid (Bk W5 w.heap.size 102 #[.string ⟨#[]⟩, .bool false, .int .u64 0, .int .u64 0]) := by
    rw [← hW5]; exact (HZ4.out.far (p := ⟨b, 1, none⟩) hne2.symm _).far (p := ⟨w2.heap.size, 1, none⟩) (by show w.heap.size ≠ w2.heap.size; omega) _
  have zW5 : W5.heap.size = w4.heap.size := by rw [← hW5]; simp [World.setCell]
  have HG5 : Hid (Gb (fun g => g = b) w W5) := by
    rw [← hW5]; exact (HG4.out.trans (Gb.set (p := fun g => g = b) (x := b) rfl 1 _)).after (by omega) 1 _
  have HD := Lib.hid (odigest_any b (d1, d2) r W5 HR5.out HWD.out HL3.out)
  have hkz : decide ((1 : Int) < (k : Int)) = false := by simp; omega
  have hkd : ((k : Int) == 1) = decide (k = 1) := by
    rw [Bool.eq_iff_iff]; simp; omega
  clear hr4 hg4 HN HW3
  go_wp2_with fail
  refine HD.out.mono ?_
  rintro e w6 ⟨rfl, hr6, hg6⟩
  have HY6 := Lib.hid (hg6.bk HY5.out (by show ¬ w2.heap.size = b; omega))
  have HZ6 := Lib.hid (hg6.bk HZ5.out (by show ¬ w.heap.size = b; omega))
  have HR6 := Lib.hid hr6
  have HG6 : Hid (Gb (fun g => g = b) w w6) := HG5.out.trans hg6
  clear x0 x1 f0 f1 y0 y1 y2 y3 g1 hr6 hg6 hW5 HD
  simp only [digV]
  obtain ⟨y0, y1, y2, y3⟩ := HY6.out.four
  have g2 := HY6.out.free 2; have g3 := HY6.out.free 3
  obtain ⟨z0, z1, z2', z3⟩ := HZ6.out.four
  have e0 := HZ6.out.free 0; have e1 := HZ6.out.free 1; have e2 := HZ6.out.free 2; have e3 := HZ6.out.free 3
  have hzy : w.heap.size ≠ w2.heap.size := by omega
  go_wp2_with fail
  refine bodyPost_ret (res_cellE Tryz.results159 rfl (bk_set4 ((HZ6.out.far (p := ⟨w2.heap.size, 2, none⟩) hzy _).far (p := ⟨w2.heap.size, 3, none⟩) hzy _) _ _ _ _)) rfl ⟨by rw [← HDR.out]; rfl, ?_, ?_⟩
  · exact (((((HR6.out.far (p := ⟨w2.heap.size, 2, none⟩) hne1 _).far (p := ⟨w2.heap.size, 3, none⟩) hne1 _).far (p := ⟨w.heap.size, 0, none⟩) hne2 _).far (p := ⟨w.heap.size, 1, none⟩) hne2 _).far (p := ⟨w.heap.size, 2, none⟩) hne2 _).far (p := ⟨w.heap.size, 3, none⟩) hne2 _
  · exact (((((HG6.out.after (by omega) 2 _).after (by omega) 3 _).after (Nat.le_refl _) 0 _).after (Nat.le_refl _) 1 _).after (Nat.le_refl _) 2 _).after (Nat.le_refl _) 3 _
theorem odigestR (b : Nat) (d : Dig) (r : Bytes) (w : World) (hk : Rdr w b (digB d ++ r)) (hd : WfD d) (hl : (digB d ++ r).length ≤ 1000000) :
    Calls Tryz.prog 160 #[.pointer (some ⟨b, 0, none⟩)] w (RdE (digV d) b r w) := odigest_any b d r w hk hd hl
def RlE (t : TypeId) (sz : Nat) (xs : List Value) (n b : Nat) (r : Bytes) (w : World) (e : Ending) (w' : World) : Prop :=
  ∃ A c, e = .returned (.slice A n c) ∧ n ≤ c ∧ c ≤ maxLen ∧ Apd w' w.heap.size t sz A n c xs ∧ Rdr w' b r ∧ Gb (fun g => g = b) w w'
theorem Gb.onto {p : Nat → Prop} {a b c : World} (h : Gb p a b) (k : Below a.heap.size b c) : Gb p a c := ⟨k.os.trans h.os, k.tape.trans h.tape, k.output.trans h.output, Nat.le_trans h.size k.size, fun i hi hp => (k.block i hi).trans (h.block i hi hp)⟩
theorem halt_orl {P : Program} {ops : Array Oper} {rest : List Oper} {o : Oper} {a : Act} {w : World} {Q : Exit → Act → World → Prop} (s x : Operand) (t : TypeId) (_ : o.op = .call { callee := .builtin .append, args := #[s, x], argTypes := #[t, t] })
    (h : Hid (wpList P ops Q (o :: rest) a w)) : wpList P ops Q (o :: rest) a w := h
theorem drop_flat {α β : Type} {f : α → List β} {l : List α} {k : Nat} {x : α} (h : l[k]? = some x) : (l.drop k).flatMap f = f x ++ (l.drop (k + 1)).flatMap f := by
  have hk := List.getElem?_eq_some_iff.1 h
  have e : l.drop k = x :: l.drop (k + 1) := by rw [← hk.2, List.getElem_cons_drop]
  rw [e, List.flatMap_cons]
set_option maxRecDepth 100000 in
set_option maxHeartbeats 2000000 in
theorem olistE_any (b : Nat) (es : List Ent) (r : Bytes) (w : World) (hk : Rdr w b (encN es.length ++ (es.flatMap encE ++ r))) (hok : ∀ e ∈ es, OkEnt e) (hn : es.length ≤ 200) (hl : (encN es.length ++ (es.flatMap encE ++ r)).length ≤ 1000000) :
    Calls Tryz.prog 158 #[.pointer (some ⟨b, 0, none⟩), .int .i64 200, .func (.func 159) #[.pointer (some ⟨b, 0, none⟩)] #[]] w (RlE 102 4 (flat enC es) es.length b r w) := by
  have hbw := Bk.lt hk
  obtain ⟨n, hne⟩ : ∃ n, es.length = n := ⟨_, rfl⟩
  rw [hne] at hk hl hn ⊢
  have HLN := Lib.hid hne
  have hl2 : (es.flatMap encE ++ r).length ≤ 1000000 := by rw [List.length_append] at hl; omega
  have HL2 := Lib.hid hl2
  have HOK := Lib.hid hok
  have HN := Lib.hid (onumber_any b n (es.flatMap encE ++ r) w hk (by omega) hl)
  obtain ⟨i0, hi, hz0, hz1, hz2⟩ := info_parts infoEnt
  have Hi := Lib.hid hi; have Hz0 := Lib.hid hz0; have Hz1 := Lib.hid hz1; have Hz2 := Lib.hid hz2
  clear hk hl hl2 hok hi hz0 hz1 hz2 hne
  go_enter Tryz.func158, Tryz.ntmps158
  go_wp2_with fail
  refine HN.out.mono ?_
  rintro e w1 ⟨rfl, hr1, hg1⟩
  have HR1 := Lib.hid hr1
  obtain ⟨x0, x1, f0, f1⟩ := Bk.two hr1
  have z1 := hg1.size
  obtain ⟨W2, hW2⟩ : ∃ W, w1.setCell ⟨b, 1, none⟩ (.bool false) = W := ⟨_, rfl⟩
  have HR2 : Hid (Rdr W2 b (es.flatMap encE ++ r)) := by
    rw [← hW2]; have := HR1.out.set 1 (.bool false); show Bk _ _ _ _; simpa using this
  have HG2 : Hid (Gb (fun g => g = b) w W2) := by rw [← hW2]; exact hg1.trans (Gb.set (p := fun g => g = b) (x := b) rfl 1 _)
  have hmz : decide ((200 : Int) < (n : Int)) = false := by simp; omega
  clear hr1 hg1 HN
  go_wp2_with fail
  clear hW2 x0 x1 f0 f1
  go_loopw [8, 9] (fun l i wr => ∃ (j : Nat) (Aj : Option Addr) (cj : Nat), l = .slice Aj j cj ∧ i = .int .i64 (j : Int) ∧ j ≤ n ∧ j ≤ cj ∧ cj ≤ maxLen ∧ Hid (Apd wr w.heap.size 102 4 Aj j cj (flat enC (es.take j))) ∧ Hid (Rdr wr b ((es.drop j).flatMap encE ++ r)) ∧ Hid (Gb (fun g => g = b) w wr)) (fun _ i _ => n - (intOf i).toNat)
  case atStart => exact ⟨0, none, 0, rfl, rfl, Nat.zero_le _, Nat.le_refl _, Nat.zero_le _, .inr ⟨rfl, rfl, rfl⟩, HR2.out, HG2.out⟩
  case round =>
    obtain ⟨j, Aj, cj, rfl, rfl, hj, hjc, hcm, hA, hR, hG⟩ := hrel
    obtain ⟨x0, x1, _, _⟩ := Bk.two hR.out
    have zr := hG.out.size
    by_cases hlt : j < n
    · have hjz : (j : Int) < (n : Int) := by omega
      obtain ⟨en, hen⟩ : ∃ en, es[j]? = some en := ⟨_, List.getElem?_eq_getElem (by rw [HLN.out]; exact hlt)⟩
      have HE := Lib.hid hen
      have hR2 := hR.out
      rw [drop_flat hen, List.append_assoc] at hR2
      have hln : (encE en ++ ((es.drop (j + 1)).flatMap encE ++ r)).length ≤ 1000000 := by
        have h := HL2.out
        rw [← List.take_append_drop j es, List.flatMap_append, drop_flat hen, List.append_assoc, List.append_assoc, List.length_append] at h
        omega
      have HC := Lib.hid (oentry_any b en ((es.drop (j + 1)).flatMap encE ++ r) wr hR2 (HOK.out en (List.mem_of_getElem? hen)) hln)
      clear hen hR2 hln
      go_wp2_with (first | (go_at_call 159; refine HC.out.mono ?_; rintro e w3 ⟨rfl, hr3, hg3⟩; simp only [entV]) | (at_builtin; refine halt_orl (.tmp 36) (.tmp 39) 79 rfl ?_))
      refine unhalt ?_
      have z3 := hg3.size
      refine wpList_append_apd (base := w.heap.size) (size := 4) _ rfl (.tmp 36) (.tmp 39) 79 rfl 102 i0 _ 40 Tryz.underlying79 Hi.out Hz0.out Hz1.out Hz2.out rfl (by decide) Aj j cj (flat enC (es.take j)) rfl ?own_1 (w3.heap.size + 1) _ 1 _ (enC en) rfl ?nw_1 (by simp [enC, Value.oneCell']) ?m1_1 ?m2_1 ?m3_1 ?_
      case own_1 => exact (hA.out.gb hg3 hbw).below ((Below.refl _ w3).alloc (Nat.le_refl _) _)
      case nw_1 =>
        have := Sl.of_bk (n := 1) (size := 4) (Bk.new w3 102 #[.string en.nm, .bool en.dir, .int .u64 en.dg.1, .int .u64 en.dg.2]) rfl
        rw [World.size_alloc] at this; exact this
      case m1_1 => unfold maxLen; omega
      case m2_1 => omega
      case m3_1 => simp; omega
      intro A4 c4 w4 ha4 hb4 hn4 hm4 hok4
      have HA4 : Hid (Apd w4 w.heap.size 102 4 A4 (j + 1) c4 (flat enC (es.take (j + 1)))) := by
        show Apd _ _ _ _ _ _ _ _
        rw [take_snoc HE.out, flat_append]
        simpa [flat] using ha4
      have hbo : Below w.heap.size w3 w4 := ((Below.refl w.heap.size w3).alloc (by omega) _).trans hb4
      have HG4 : Hid (Gb (fun g => g = b) w w4) := (hG.out.trans hg3).onto hbo
      have HR4 : Hid (Rdr w4 b ((es.drop (j + 1)).flatMap encE ++ r)) := Bk.below hr3 hbo hbw
      clear ha4 hb4 hok4 hr3 hg3 hbo HC x0 x1
      go_wp2_with fail
      go_roundw
      case rel => exact ⟨j + 1, A4, c4, rfl, by go_num, hlt, hn4, hm4, HA4.out, HR4.out, HG4.out⟩
      case measure => simp [intOf]; omega
    · have hjz : ¬ (j : Int) < (n : Int) := by omega
      have hjn : n = j := by omega
      subst hjn
      have HS : Hid (Apd wr w.heap.size 102 4 Aj n cj (flat enC es)) := by
        have := hA.out; rw [List.take_of_length_le (by rw [HLN.out]; exact Nat.le_refl _)] at this; exact this
      have HR3 : Hid (Rdr wr b r) := by
        have := hR.out; rw [List.drop_of_length_le (by rw [HLN.out]; exact Nat.le_refl _)] at this; exact this
      go_wp2_with fail
      go_ret
      exact ⟨Aj, cj, rfl, hjc, hcm, HS.out, HR3.out, hG.out⟩
set_option maxRecDepth 100000 in
set_option maxHeartbeats 2000000 in
theorem olistD_any (b : Nat) (es : List Dig) (r : Bytes) (w : World) (hk : Rdr w b (encN es.length ++ (es.flatMap digB ++ r))) (hok : ∀ e ∈ es, WfD e) (hn : es.length ≤ 8) (hl : (encN es.length ++ (es.flatMap digB ++ r)).length ≤ 1000000) :
    Calls Tryz.prog 161 #[.pointer (some ⟨b, 0, none⟩), .int .i64 8, .func (.func 160) #[.pointer (some ⟨b, 0, none⟩)] #[]] w (RlE 30 2 (flat dgC es) es.length b r w) := by
  have hbw := Bk.lt hk
  obtain ⟨n, hne⟩ : ∃ n, es.length = n := ⟨_, rfl⟩
  rw [hne] at hk hl hn ⊢
  have HLN := Lib.hid hne
  have hl2 : (es.flatMap digB ++ r).length ≤ 1000000 := by rw [List.length_append] at hl; omega
  have HL2 := Lib.hid hl2
  have HOK := Lib.hid hok
  have HN := Lib.hid (onumber_any b n (es.flatMap digB ++ r) w hk (by omega) hl)
  obtain ⟨i0, hi, hz0, hz1, hz2⟩ := info_parts infoDg
  have Hi := Lib.hid hi; have Hz0 := Lib.hid hz0; have Hz1 := Lib.hid hz1; have Hz2 := Lib.hid hz2
  clear hk hl hl2 hok hi hz0 hz1 hz2 hne
  go_enter Tryz.func161, Tryz.ntmps161
  go_wp2_with fail
  refine HN.out.mono ?_
  rintro e w1 ⟨rfl, hr1, hg1⟩
  have HR1 := Lib.hid hr1
  obtain ⟨x0, x1, f0, f1⟩ := Bk.two hr1
  have z1 := hg1.size
  obtain ⟨W2, hW2⟩ : ∃ W, w1.setCell ⟨b, 1, none⟩ (.bool false) = W := ⟨_, rfl⟩
  have HR2 : Hid (Rdr W2 b (es.flatMap digB ++ r)) := by
    rw [← hW2]; have := HR1.out.set 1 (.bool false); show Bk _ _ _ _; simpa using this
  have HG2 : Hid (Gb (fun g => g = b) w W2) := by rw [← hW2]; exact hg1.trans (Gb.set (p := fun g => g = b) (x := b) rfl 1 _)
  have hmz : decide ((8 : Int) < (n : Int)) = false := by simp; omega
  clear hr1 hg1 HN
  go_wp2_with fail
  clear hW2 x0 x1 f0 f1
  go_loopw [8, 9] (fun l i wr => ∃ (j : Nat) (Aj : Option Addr) (cj : Nat), l = .slice Aj j cj ∧ i = .int .i64 (j : Int) ∧ j ≤ n ∧ j ≤ cj ∧ cj ≤ maxLen ∧ Hid (Apd wr w.heap.size 30 2 Aj j cj (flat dgC (es.take j))) ∧ Hid (Rdr wr b ((es.drop j).flatMap digB ++ r)) ∧ Hid (Gb (fun g => g = b) w wr)) (fun _ i _ => n - (intOf i).toNat)
  case atStart => exact ⟨0, none, 0, rfl, rfl, Nat.zero_le _, Nat.le_refl _, Nat.zero_le _, .inr ⟨rfl, rfl, rfl⟩, HR2.out, HG2.out⟩
  case round =>
    obtain ⟨j, Aj, cj, rfl, rfl, hj, hjc, hcm, hA, hR, hG⟩ := hrel
    obtain ⟨x0, x1, _, _⟩ := Bk.two hR.out
    have zr := hG.out.size
    by_cases hlt : j < n
    · have hjz : (j : Int) < (n : Int) := by omega
      obtain ⟨en, hen⟩ : ∃ en, es[j]? = some en := ⟨_, List.getElem?_eq_getElem (by rw [HLN.out]; exact hlt)⟩
      have HE := Lib.hid hen
      have hR2 := hR.out
      rw [drop_flat hen, List.append_assoc] at hR2
      have hln : (digB en ++ ((es.drop (j + 1)).flatMap digB ++ r)).length ≤ 1000000 := by
        have h := HL2.out
        rw [← List.take_append_drop j es, List.flatMap_append, drop_flat hen, List.append_assoc, List.append_assoc, List.length_append] at h
        omega
      have HC := Lib.hid (odigestR b en ((es.drop (j + 1)).flatMap digB ++ r) wr hR2 (HOK.out en (List.mem_of_getElem? hen)) hln)
      clear hen hR2 hln
      go_wp2_with (first | (go_at_call 160; refine HC.out.mono ?_; rintro e w3 ⟨rfl, hr3, hg3⟩; simp only [digV]) | (at_builtin; refine halt_orl (.tmp 36) (.tmp 39) 80 rfl ?_))
      refine unhalt ?_
      have z3 := hg3.size
      refine wpList_append_apd (base := w.heap.size) (size := 2) _ rfl (.tmp 36) (.tmp 39) 80 rfl 30 i0 _ 16 Tryz.underlying80 Hi.out Hz0.out Hz1.out Hz2.out rfl (by decide) Aj j cj (flat dgC (es.take j)) rfl ?own_1 (w3.heap.size + 1) _ 1 _ (dgC en) rfl ?nw_1 (by simp [dgC, Value.oneCell']) ?m1_1 ?m2_1 ?m3_1 ?_
      case own_1 => exact (hA.out.gb hg3 hbw).below ((Below.refl _ w3).alloc (Nat.le_refl _) _)
      case nw_1 =>
        have := Sl.of_bk (n := 1) (size := 2) (Bk.new w3 30 #[.int .u64 en.1, .int .u64 en.2]) rfl
        rw [World.size_alloc] at this; exact this
      case m1_1 => unfold maxLen; omega
      case m2_1 => omega
      case m3_1 => simp; omega
      intro A4 c4 w4 ha4 hb4 hn4 hm4 hok4
      have HA4 : Hid (Apd w4 w.heap.size 30 2 A4 (j + 1) c4 (flat dgC (es.take (j + 1)))) := by
        show Apd _ _ _ _ _ _ _ _
        rw [take_snoc HE.out, flat_append]
        simpa [flat] using ha4
      have hbo : Below w.heap.size w3 w4 := ((Below.refl w.heap.size w3).alloc (by omega) _).trans hb4
      have HG4 : Hid (Gb (fun g => g = b) w w4) := (hG.out.trans hg3).onto hbo
      have HR4 : Hid (Rdr w4 b ((es.drop (j + 1)).flatMap digB ++ r)) := Bk.below hr3 hbo hbw
      clear ha4 hb4 hok4 hr3 hg3 hbo HC x0 x1
      go_wp2_with fail
      go_roundw
      case rel => exact ⟨j + 1, A4, c4, rfl, by go_num, hlt, hn4, hm4, HA4.out, HR4.out, HG4.out⟩
      case measure => simp [intOf]; omega
    · have hjz : ¬ (j : Int) < (n : Int) := by omega
      have hjn : n = j := by omega
      subst hjn
      have HS : Hid (Apd wr w.heap.size 30 2 Aj n cj (flat dgC es)) := by
        have := hA.out; rw [List.take_of_length_le (by rw [HLN.out]; exact Nat.le_refl _)] at this; exact this
      have HR3 : Hid (Rdr wr b r) := by
        have := hR.out; rw [List.drop_of_length_le (by rw [HLN.out]; exact Nat.le_refl _)] at this; exact this
      go_wp2_with fail
      go_ret
      exact ⟨Aj, cj, rfl, hjc, hcm, HS.out, HR3.out, hG.out⟩
end Go.Proofs.YtmdhlkkekidknaaGreatDoor

namespace Go.Proofs.YtmdhlkkekidknaaGreatDoor
open Go.RowKit

def bc (l : Bytes) : List Value := l.map fun b => Value.int .u8 b.toNat
theorem bc_len (l : Bytes) : (bc l).length = l.length := by simp [bc]
theorem bc_append (l r : Bytes) : bc (l ++ r) = bc l ++ bc r := by simp [bc]

structure Txt (w : World) (base av : Nat) (A : Option Addr) (n c : Nat) (bs : Bytes) : Prop where
  len : bs.length = n
  le : n ≤ c
  max : c ≤ maxLen
  lies : 0 < c → ∃ b off, A = some ⟨b, off, none⟩ ∧ (base ≤ b ∧ b ≠ av) ∧ b < w.heap.size ∧ (∀ j, j < n → w.cell? ⟨b, off + j, none⟩ = (bc bs)[j]?) ∧ (∀ j, j < c → (w.cell? ⟨b, off + j, none⟩).isSome = true ∧ w.frozen? ⟨b, off + j, none⟩ = false)

section
variable {w w' : World} {base av n c : Nat} {A : Option Addr} {bs : Bytes}
theorem Txt.nil (w : World) (base av : Nat) (A : Option Addr) : Txt w base av A 0 0 [] := ⟨rfl, Nat.le_refl _, Nat.zero_le _, fun h => absurd h (by omega)⟩
theorem Txt.keep (h : Txt w base av A n c bs) (hs : w.heap.size ≤ w'.heap.size) (hk : ∀ k, k < w.heap.size → w'.heap[k]? = w.heap[k]?) : Txt w' base av A n c bs :=
  ⟨h.len, h.le, h.max, fun h0 => by
    obtain ⟨b, off, e, hb, hl, hc, hf⟩ := h.lies h0
    have ec : ∀ o, w'.cell? ⟨b, o, none⟩ = w.cell? ⟨b, o, none⟩ := fun o => World.cell?_of_block (a := ⟨b, o, none⟩) (hk b hl)
    have ef : ∀ o, w'.frozen? ⟨b, o, none⟩ = w.frozen? ⟨b, o, none⟩ := fun o => World.frozen?_of_block (a := ⟨b, o, none⟩) (hk b hl)
    exact ⟨b, off, e, hb, by omega, fun j hj => (ec _).trans (hc j hj), fun j hj => ⟨by rw [ec]; exact (hf j hj).1, (ef _).trans (hf j hj).2⟩⟩⟩
theorem Txt.below (h : Txt w base av A n c bs) (hb : Below w.heap.size w w') : Txt w' base av A n c bs := h.keep hb.size fun k hk => hb.block k hk
theorem Txt.avoid {av' : Nat} (h : Txt w base av A n c bs) (ha : w.heap.size ≤ av') : Txt w base av' A n c bs :=
  ⟨h.len, h.le, h.max, fun h0 => by
    obtain ⟨b, off, e, h1, h2, h3⟩ := h.lies h0
    exact ⟨b, off, e, ⟨h1.1, by omega⟩, h2, h3⟩⟩

theorem setCells_below {B b : Nat} (hb : B ≤ b) : ∀ (vs : List Value) (o : Nat) (w : World), Below B w (w.setCells b o vs)
  | [], _, w => Below.refl _ w
  | v :: vs, o, w => ((Below.refl B w).setCell (p := ⟨b, o, none⟩) hb v).trans (setCells_below hb vs (o + 1) _)
theorem setCells_size (b : Nat) : ∀ (vs : List Value) (o : Nat) (w : World), (w.setCells b o vs).heap.size = w.heap.size
  | [], _, _ => rfl
  | v :: vs, o, w => by
    show ((w.setCell ⟨b, o, none⟩ v).setCells b (o + 1) vs).heap.size = _
    rw [setCells_size b vs]; simp

theorem setCells_other {b k : Nat} (hb : b ≠ k) : ∀ (vs : List Value) (o : Nat) (w : World), (w.setCells b o vs).heap[k]? = w.heap[k]?
  | [], _, _ => rfl
  | v :: vs, o, w => (setCells_other hb vs (o + 1) _).trans (Below.heap_setCell w ⟨b, o, none⟩ v k (fun e => hb e.symm))

variable {P : Program}
theorem Txt.run_append (h : Txt w base av A n c bs) (t tx ty e : TypeId) (i : TypeInfo) (ht : P.underlying t = some (.slice e)) (hi : P.info? e = some i) (hz : i.zero = some (.int .u8 0)) (hsize : i.size = 1) (hby : i.bytes = 1)
    (x : Value) (m : Nat) (ys : Bytes) (hs : Src P 1 tx x m (bc ys) w) (hmax : n + m ≤ 140737488355328) (hbase : base ≤ w.heap.size) (hav : av < w.heap.size) :
    ∃ A' c' w', (Builtin.append_ #[t, tx] ty #[.slice A n c, x]).run P w = .ok (.slice A' (n + m) c') w' ∧ Txt w' base av A' (n + m) c' (bs ++ ys) ∧ Below base w w' ∧ w'.heap[av]? = w.heap[av]? := by
  have hnl := hs.newsLen
  rw [bc_len, Nat.mul_one] at hnl
  have hs' : Src P i.size tx x m (bc ys) w := by rw [hsize]; exact hs
  by_cases hfit : n + m ≤ c
  · rcases Nat.eq_zero_or_pos c with h0 | hc
    · subst h0
      obtain rfl : n = 0 := by omega
      obtain rfl : m = 0 := by omega
      obtain rfl : ys = [] := List.eq_nil_of_length_eq_zero hnl
      exact ⟨A, 0, w, run_append_nothing (P := P) w t tx ty e i ht hi A 0 0 (Nat.le_refl _) x hs', by simpa using h, Below.refl _ _, rfl⟩
    · obtain ⟨b, off, rfl, hb, hl, hcell, hfree⟩ := h.lies hc
      have hsome : ∀ j, j < (bc ys).length → (w.cell? ⟨b, off + n * i.size + j, none⟩).isSome = true := fun j hj => by
        rw [bc_len] at hj
        rw [hsize, Nat.mul_one, Nat.add_assoc]; exact (hfree (n + j) (by omega)).1
      have hrun := run_append_room_src (P := P) w t tx ty e i ht hi b off n c x m (bc ys) hs' hfit hsome (fun j hj => by
        rw [bc_len] at hj
        rw [hsize, Nat.mul_one, Nat.add_assoc]; exact (hfree (n + j) (by omega)).2)
      refine ⟨_, _, _, hrun, ⟨by rw [List.length_append, h.len]; omega, hfit, h.max, fun _ => ⟨b, off, rfl, hb, by rw [setCells_size]; exact hl, fun j hj => ?_, fun j hj => ⟨?_, ?_⟩⟩⟩, setCells_below hb.1 _ _ _, setCells_other hb.2 _ _ _⟩
      · by_cases hj' : j < n
        · rw [World.cell?_setCells_out b _ _ _ _ (fun _ _ => .inl (by show off + j < off + n * i.size; rw [hsize]; omega)), hcell j hj', bc_append, List.getElem?_append_left (by rw [bc_len, h.len]; exact hj')]
        · have := World.cell?_setCells_in b (bc ys) (off + n * i.size) w hsome (j - n) (by rw [bc_len]; omega)
          rw [hsize, Nat.mul_one, show off + n + (j - n) = off + j by omega] at this
          rw [hsize, Nat.mul_one, this, bc_append, List.getElem?_append_right (by rw [bc_len, h.len]; omega), show (bc bs).length = n by rw [bc_len, h.len]]
          exact (List.getElem?_eq_getElem _).symm
      · by_cases hj' : n ≤ j ∧ j < n + m
        · have := World.cell?_setCells_in b (bc ys) (off + n * i.size) w hsome (j - n) (by rw [bc_len]; omega)
          rw [hsize, Nat.mul_one, show off + n + (j - n) = off + j by omega] at this
          rw [hsize, Nat.mul_one, this]; rfl
        · rw [World.cell?_setCells_out b _ _ _ _ (fun _ _ => by show off + j < off + n * i.size ∨ off + n * i.size + (bc ys).length ≤ off + j; rw [hsize, bc_len]; omega)]
          exact (hfree j hj).1
      · rw [World.frozen?_setCells]; exact (hfree j hj).2
  · have hold : (Builtin.firstCells i.size n (.slice A n c)).run P w.drew = .ok (bc bs).toArray w.drew := by
      rw [hsize]
      rcases Nat.eq_zero_or_pos c with h0 | hc
      · subst h0
        obtain rfl : n = 0 := by have := h.le; omega
        obtain rfl : bs = [] := List.eq_nil_of_length_eq_zero h.len
        cases A with
        | none => exact run_firstCells_none w.drew 1 0 0 0
        | some a' => exact run_firstCells_some w.drew 1 0 a' 0 0 [] (by simp) (by intro _ _ h'; simp at h')
      · obtain ⟨b, off, rfl, hb, hl, hcell, hfree⟩ := h.lies hc
        refine run_firstCells_some w.drew 1 n ⟨b, off, none⟩ n c (bc bs) (by rw [bc_len, h.len]; omega) (fun j u hu => ?_)
        rw [Addr.add_lit]
        have hj : j < n := by have := (List.getElem?_eq_some_iff.1 hu).1; rwa [bc_len, h.len] at this
        exact (hcell j hj).trans hu
    have hg : c < n + m := by omega
    have h63 : n + m ≤ maxLen := by unfold maxLen; omega
    have hrun := run_append_grow_src (P := P) w t tx ty e i (.int .u8 0) ht hi hz A n c (bc bs) hold x m (bc ys) hs' hg (by omega) (growslice_fits hg (by rw [hby]; omega))
    have hge := grownCap_ge w (n + m) c e
    have hcm := grownCap_le_maxLen w (n + m) c e h63
    refine ⟨_, _, _, hrun, ⟨by rw [List.length_append, h.len]; omega, hge, hcm, fun _ => ⟨w.heap.size, 0, rfl, ⟨hbase, by omega⟩, ?_, fun j hj => ?_, fun j hj => ⟨?_, ?_⟩⟩⟩, ((Below.refl base w).drew).alloc hbase _, Below.heap_alloc w.drew _ av hav⟩
    · have : (w.drew.alloc (.cells ((bc bs ++ bc ys).toArray ++ Builtin.zeroCells (Value.int .u8 0).cells (grownCap w (n + m) c e - (n + m))) e)).heap.size = w.heap.size + 1 := World.size_alloc _ _
      omega
    · have e1 : (w.drew.alloc (.cells ((bc bs ++ bc ys).toArray ++ Builtin.zeroCells (Value.int .u8 0).cells (grownCap w (n + m) c e - (n + m))) e)).cell? ⟨w.heap.size, j, none⟩ = _ := World.cell?_alloc_new w.drew _ _ j
      rw [Nat.zero_add, e1, Array.getElem?_append_left (by simp only [List.size_toArray, List.length_append, bc_len, h.len]; omega), List.getElem?_toArray, bc_append]
    · have e1 : (w.drew.alloc (.cells ((bc bs ++ bc ys).toArray ++ Builtin.zeroCells (Value.int .u8 0).cells (grownCap w (n + m) c e - (n + m))) e)).cell? ⟨w.heap.size, j, none⟩ = _ := World.cell?_alloc_new w.drew _ _ j
      rw [Nat.zero_add, e1]
      have hsz : ((bc bs ++ bc ys).toArray ++ Builtin.zeroCells (Value.int .u8 0).cells (grownCap w (n + m) c e - (n + m))).size = grownCap w (n + m) c e := by
        rw [Array.size_append, List.size_toArray, List.length_append, bc_len, bc_len, h.len, hnl, size_zeroCells]
        show n + m + (grownCap w (n + m) c e - (n + m)) * 1 = _
        omega
      rw [Array.getElem?_eq_getElem (by rw [hsz]; exact hj)]
      rfl
    · rw [Nat.zero_add]; exact World.frozen?_alloc_new w.drew _ _ j

theorem wpList_append_txt {ops : Array Oper} {rest : List Oper} {o : Oper} {a : Act} {Q : Exit → Act → World → Prop} (hgd : o.guard = none) (s x : Operand) (t tx : TypeId)
    (ho : o.op = .call { callee := .builtin .append, args := #[s, x], argTypes := #[t, tx] })
    (e : TypeId) (i : TypeInfo) (ht : P.underlying t = some (.slice e)) (hi : P.info? e = some i) (hz : i.zero = some (.int .u8 0)) (hsize : i.size = 1) (hby : i.bytes = 1)
    (A : Option Addr) (n c : Nat) (bs : Bytes) (hv : a.eval s = .slice A n c) (h : Txt w base av A n c bs)
    (xv : Value) (m : Nat) (ys : Bytes) (hx : a.eval x = xv) (hs : Src P 1 tx xv m (bc ys) w) (hmax : n + m ≤ 140737488355328) (hbase : base ≤ w.heap.size) (hav : av < w.heap.size)
    (hK : ∀ A' c' w', Txt w' base av A' (n + m) c' (bs ++ ys) → Below base w w' → w'.heap[av]? = w.heap[av]? → wpList P ops Q rest (a.put o.dst (.slice A' (n + m) c')) w') : wpList P ops Q (o :: rest) a w := by
  refine wpList_plain hgd fun K hK' => ?_
  obtain ⟨A', c', w', hrun, h1, h2, h3⟩ := h.run_append (P := P) t tx o.type e i ht hi hz hsize hby xv m ys hs hmax hbase hav
  unfold Oper.wp
  simp [execOp, ho, resolve, invoke, builtin, hv, hx, hrun, Result.andThen]
  exact hK' _ _ (hK A' c' w' h1 h2 h3)

theorem Txt.run_string (h : Txt w base av A n c bs) (src dst e : TypeId) (hs : P.underlying src = some (.slice e)) (he : P.underlying e = some (.int .u8)) (hd : P.underlying dst = some .string) :
    (convert src dst (.slice A n c)).run P w = .ok (.string (ofL bs)) w := by
  rcases Nat.eq_zero_or_pos c with h0 | hc
  · subst h0
    obtain rfl : n = 0 := by have := h.le; omega
    obtain rfl : bs = [] := List.eq_nil_of_length_eq_zero h.len
    cases A with
    | none => exact run_convert_bytes_nil w src e hs he 0 0 dst hd
    | some a => exact run_convert_bytes_back w src dst e a 0 [] hs he hd (fun j hj => by simp at hj)
  · obtain ⟨b, off, rfl, _, _, hcell, _⟩ := h.lies hc
    have := run_convert_bytes_back (P := P) w src dst e ⟨b, off, none⟩ c bs hs he hd (fun j hj => by
      rw [Addr.add_lit, hcell j (by rw [← h.len]; exact hj)]
      simp [bc, List.getElem?_eq_getElem hj])
    rw [h.len] at this
    exact this
end
end Go.Proofs.YtmdhlkkekidknaaGreatDoor

namespace Go.Proofs.YtmdhlkkekidknaaGreatDoor
open Go.RowKit

def SeqT {α : Type} (F : Fence) (n : Nat) (P : Program) (g : Nat) (lb : Array Value) (encs : α → Array Value) (Kp St : World → World → Prop) (Pf S Sp : List α → Prop) (hz : Nat) (w : World) : Prop :=
  ∀ (l : Nat) (J Jx : List α → World → Prop) (W : World), Below w.heap.size w W → W.heap.size = hz → (∀ pre A B, J pre A → St A B → J pre B) →
    (∀ pre x W1, Pf (pre ++ [x]) → J pre W1 → YieldAt F (n - 1) P l (encs x) W1 fun e W' =>
      (e = .returned (.bool true) ∧ J (pre ++ [x]) W' ∧ Kp W1 W') ∨ (e = .returned (.bool false) ∧ Jx (pre ++ [x]) W')) →
    J [] W →
    CallsIn F n P g (#[.func (.yield l) #[] #[]] ++ lb) W fun e W' => (∃ v, e = .returned v) ∧ ((∃ xs, S xs ∧ J xs W') ∨ (∃ pre, Sp pre ∧ Jx pre W'))

def Rec2 (D : Nat) (W W' : World) : Prop := W'.heap[D]? = W.heap[D]? ∧ W'.heap[D + 1]? = W.heap[D + 1]?
theorem Rec2.refl (D : Nat) (W : World) : Rec2 D W W := ⟨rfl, rfl⟩
def ownPostT {α : Type} (D : Nat) (Kp : World → World → Prop) (I : List α → World → Prop) (Ix : Code → List α → World → Prop) (xs : List α) (W : World) : Exit → Act → World → Prop
  | .normal, _, W' => Rec2 D W W' ∧ Kp W W' ∧ I xs W'
  | .ret, _, W' => Rec2 D W W' ∧ Ix .ret xs W'
  | .exit id, _, W' => Rec2 D W W' ∧ Ix (.exit id) xs W'
  | .goto t, _, W' => Rec2 D W W' ∧ Ix (.goto t) xs W'
  | .panic _, _, _ => False
  | .outgrown, _, _ => False
variable {F : Fence} {n : Nat} {P : Program}

end Go.Proofs.YtmdhlkkekidknaaGreatDoor

namespace Go.Proofs.YtmdhlkkekidknaaGreatDoor
open Go.RowKit Go.Maps

section
variable {F : Fence} {n' : Nat} {P : Program} {w : World}
theorem wpListIn_append_sl {base size : Nat} {ops : Array Oper} {rest : List Oper} {o : Oper} {a : Act} {Q : Exit → Act → World → Prop} (hgd : o.guard = none) (s x : Operand) (t : TypeId)
    (ho : o.op = .call { callee := .builtin .append, args := #[s, x], argTypes := #[t, t] })
    (e : TypeId) (i : TypeInfo) (z : Value) (bytes : Nat) (ht : P.underlying t = some (.slice e)) (hi : P.info? e = some i) (hz : i.zero = some z)
    (hsize : i.size = size) (hby : i.bytes = bytes) (hzs : z.cells.size = size) (hsz : 0 < size)
    (v : Value) (n : Nat) (xs : List Value) (hs : a.eval s = v) (hown : w.ownsRow base e size v n xs)
    (B : Nat) (A : Option Addr) (m c : Nat) (ys : List Value) (hx : a.eval x = .slice A m c) (hsl : Sl w B size A m ys) (h1 : ∀ u ∈ ys, u.oneCell' = true)
    (h63 : n + m ≤ maxLen) (hbytes : (n + m) * bytes ≤ 140737488355328) (hbase : base ≤ w.heap.size)
    (h : ∀ A' c' w', w'.ownsRow base e size (.slice A' (n + m) c') (n + m) (xs ++ ys) → w.grownBy w' v.ownBlock → n + m ≤ c' → c' ≤ maxLen → wpListIn F n' P ops Q rest (a.put o.dst (.slice A' (n + m) c')) w') : wpListIn F n' P ops Q (o :: rest) a w := by
  refine wpListIn_plain hgd fun K hK => ?_
  obtain ⟨A', c', w', hr, ho', hg, hc1, hc2⟩ := run_append_sl (P := P) t o.type i z bytes ht hi hz hsize hby hzs hsz hown (c := c) hsl h1 h63 hbytes hbase
  unfold Oper.wpIn
  refine ⟨?_, ?_⟩
  · simp [Oper.about, ho, resolve, Target.leads, Sem.run_pure]
  · rw [Oper.semAt_plain F _ _ (by rw [ho]; intro c hc'; cases hc')]
    simp [execOp, ho, resolve, invoke, builtin, hs, hx, hr, Result.andThen]
    exact hK _ _ (h A' c' w' ho' hg hc1 hc2)
end

def isRow (e : TypeId) : Option Obj → Prop
  | some (.cells _ t _) => t = e
  | _ => False
theorem Rm.block {w w' : World} {P : Program} {k : TypeId} {b N : Nat} {g : ByteArray → Option Value} (h : Rm w P k b N g) (hb : w'.heap[b]? = w.heap[b]?) : Rm w' P k b N g := by
  obtain ⟨D, ⟨es, clock, h1, h2⟩, h3⟩ := h
  exact ⟨D, ⟨es, clock, hb.trans h1, h2⟩, h3⟩
end Go.Proofs.YtmdhlkkekidknaaGreatDoor

namespace Go.Proofs.YtmdhlkkekidknaaGreatDoor
open Go.RowKit Go.Maps
attribute [local go_sem] Oper.semAt_some

theorem str_ne {a b : ByteArray} (h : a ≠ b) : (a.toList == b.toList) = false := by
  rw [beq_eq_false_iff_ne]
  intro e
  rw [ByteArray.toList_eq, ByteArray.toList_eq] at e
  exact h (data_inj e)
end Go.Proofs.YtmdhlkkekidknaaGreatDoor

namespace Go.Proofs.YtmdhlkkekidknaaGreatDoor
open Go.RowKit Go.Maps
attribute [local go_sem] Oper.semAt_some

theorem one_grown {w w' : World} {b : Nat} {v : Value} {t : TypeId} {row : Option Nat} (h : w.heap[b]? = some (.cells #[v] t (0, 0))) (hg : w.grownBy w' row) (hr : some b ≠ row) : w'.heap[b]? = some (.cells #[v] t (0, 0)) :=
  (hg.block b (Array.getElem?_eq_some_iff.1 h).1 hr).trans h
end Go.Proofs.YtmdhlkkekidknaaGreatDoor

namespace Go.Proofs.YtmdhlkkekidknaaGreatDoor
open Go.RowKit Go.Maps

theorem infoStr : (Tryz.prog.info? 9).map (fun i => (i.zero, i.size, i.bytes)) = some (some (.string ⟨#[]⟩), 1, 16) := by kernel_rfl
abbrev Ix := Bool × ByteArray
end Go.Proofs.YtmdhlkkekidknaaGreatDoor

namespace Go.Proofs.YtmdhlkkekidknaaGreatDoor
open Go.RowKit Go.Maps

theorem new_cell (w : World) (t : TypeId) (x : ByteArray) : ∀ j u, [Value.string x][j]? = some u → (w.alloc (.cells #[.string x] t)).cell? (Addr.add ⟨w.heap.size, 0, none⟩ j) = some u := by
  intro j u h
  cases j with
  | zero =>
    have hk : Bk (w.alloc (.cells #[.string x] t)) w.heap.size t #[.string x] := Bk.new w _ _
    have := hk.cell 0
    simp at this h
    subst h
    simp [Addr.add]
  | succ j => simp at h

end Go.Proofs.YtmdhlkkekidknaaGreatDoor

namespace Go.Proofs.YtmdhlkkekidknaaGreatDoor
open Go.RowKit Go.Maps
attribute [local go_sem] Oper.semAt_some

theorem less_str (a b : ByteArray) : Op.bytesLess a.toList b.toList = less a b := by
  rw [ByteArray.toList_eq, ByteArray.toList_eq]; rfl
end Go.Proofs.YtmdhlkkekidknaaGreatDoor

namespace Go.Proofs.YtmdhlkkekidknaaGreatDoor
open Go.RowKit

def putAll (a : Act) : List (Tmp × Value) → Act
  | [] => a
  | p :: r => putAll (a.put (some p.1) p.2) r

theorem put_put (a : Act) (d : Tmp) (v u : Value) : (a.put (some d) v).put (some d) u = a.put (some d) u := by
  simp [Act.put]
theorem putAll_put (a : Act) (d : Tmp) (v : Value) : ∀ (l : List (Tmp × Value)), (∀ p ∈ l, p.1 ≠ d) → putAll (a.put (some d) v) l = (putAll a l).put (some d) v
  | [], _ => rfl
  | p :: l, h => by
    have hne : p.1 ≠ d := h p (by simp)
    show putAll ((a.put (some d) v).put (some p.1) p.2) l = (putAll (a.put (some p.1) p.2) l).put (some d) v
    rw [Act.put_comm a v p.2 (x := some d) (y := some p.1) (fun x hx e => by cases hx; cases e; exact hne rfl)]
    exact putAll_put _ d v l (fun q hq => h q (by simp [hq]))
theorem putAll_set (a : Act) : ∀ (ds : List Tmp) (vs : List Value) (i : Nat) (d : Tmp) (v : Value), ds.Nodup → ds.length = vs.length → ds[i]? = some d →
    putAll a (ds.zip (vs.set i v)) = (putAll a (ds.zip vs)).put (some d) v
  | [], _, _, _, _, _, _, h => by simp at h
  | d0 :: ds, [], _, _, _, _, hl, _ => by simp at hl
  | d0 :: ds, v0 :: vs, 0, d, v, hn, hl, h => by
    simp only [List.getElem?_cons_zero, Option.some.injEq] at h; subst h
    have hnd := List.nodup_cons.1 hn
    have hm : ∀ p ∈ ds.zip vs, p.1 ≠ d0 := fun p hp e => hnd.1 (by have := (List.of_mem_zip hp).1; rwa [e] at this)
    show putAll (a.put (some d0) v) (ds.zip vs) = (putAll (a.put (some d0) v0) (ds.zip vs)).put (some d0) v
    rw [putAll_put _ _ _ _ hm, putAll_put _ _ _ _ hm, put_put]
  | d0 :: ds, v0 :: vs, i + 1, d, v, hn, hl, h => by
    simp only [List.getElem?_cons_succ] at h
    show putAll (a.put (some d0) v0) (ds.zip (vs.set i v)) = (putAll (a.put (some d0) v0) (ds.zip vs)).put (some d) v
    exact putAll_set _ ds vs i d v (List.nodup_cons.1 hn).2 (by simpa using hl) h
theorem put_same (a : Act) (d : Tmp) : a.put (some d) (a.tmps.getD d undef) = a := by
  show ({ a with tmps := a.tmps.setIfInBounds d (a.tmps.getD d undef) } : Act) = a
  have : a.tmps.setIfInBounds d (a.tmps.getD d undef) = a.tmps := ?_
  · rw [this]
  apply Array.ext
  · simp
  · intro i h1 h2
    rw [Array.getElem_setIfInBounds (by simpa using h2)]
    split
    · rename_i e; subst e; simp [show d < a.tmps.size by simpa using h2]
    · rfl
theorem putAll_same (a : Act) : ∀ (ds : List Tmp), putAll a (ds.zip (ds.map fun d => a.tmps.getD d undef)) = a
  | [] => rfl
  | d :: ds => by
    show putAll (a.put (some d) (a.tmps.getD d undef)) _ = a
    rw [put_same]; exact putAll_same a ds

variable {P : Program} {Q : Exit → Act → World → Prop}

def Gives (P : Program) (o : Oper) (a : Act) (w : World) (Ψ : Value → World → Prop) : Prop :=
  ∀ (K : Act → World → Prop) (Q : Exit → Act → World → Prop), (∀ v w', Ψ v w' → K (a.put o.dst v) w') → o.wp P a w K Q

theorem gives_value {o : Oper} {a : Act} {w w' : World} {v : Value} {Ψ : Value → World → Prop} (hr : (execOp a.eval o).run P w = .ok (.value v) w') (h : Ψ v w') : Gives P o a w Ψ := fun K Q hK => by
  unfold Oper.wp; rw [hr]; exact hK v w' h
theorem gives_call {o : Oper} {a : Act} {w : World} {f : FuncId} {args : Array Value} {Ψ : Value → World → Prop} (hr : (execOp a.eval o).run P w = .ok (.enter f args) w)
    (h : Calls P f args w fun e w' => ∃ v, e = .returned v ∧ Ψ v w') : Gives P o a w Ψ := fun K Q hK => by
  unfold Oper.wp; rw [hr]
  exact h.mono fun e w' ⟨v, he, hv⟩ => by subst he; exact hK v w' hv

theorem gives_append {o : Oper} {a : Act} {w w' : World} {r v u : Value} {Ψ : Value → World → Prop} (s x : Operand) (t : TypeId) (ho : o.op = .call { callee := .builtin .append, args := #[s, x], argTypes := #[t, t] })
    (hs : a.eval s = v) (hx : a.eval x = u) (hr : (Builtin.append_ #[t, t] o.type #[v, u]).run P w = .ok r w') (h : Ψ r w') : Gives P o a w Ψ :=
  gives_value (v := r) (w' := w') (by simp [execOp, ho, resolve, invoke, builtin, hs, hx, hr, Result.andThen]) h

def dstsOf (l : List Oper) (n : Nat) : List Tmp := (l.take n).map fun o => o.dst.getD 0
def fullL (l : List Oper) (n : Nat) : Array Bool := ((List.range l.length).map fun i => decide (i < n)).toArray
def stableB (l : List Oper) (n : Nat) : Bool :=
  decide (n < l.length) && Region.sinkB .any l.toArray n && Region.chainB .any l.toArray n && Region.seqB .any l.toArray (l.length - n) n (fullL l n) &&
  (l.take n).all (fun o => o.dst.isSome && o.guard.isNone) && decide (dstsOf l n).Nodup && (List.range n).all (fun i => match l[i]? with | some o => o.after.all (fun e => decide (e.on < i)) | none => false)

theorem count_set_lt {l : List Bool} {i : Nat} (h : l[i]? = some false) : (l.set i true).count false + 1 = l.count false := by
  induction l generalizing i with
  | nil => simp at h
  | cons b l ih =>
    cases i with
    | zero => simp only [List.getElem?_cons_zero, Option.some.injEq] at h; subst h; simp
    | succ i =>
      simp only [List.getElem?_cons_succ] at h
      have := ih h
      cases b <;> simp [List.set_cons_succ] <;> omega

set_option maxHeartbeats 400000 in
theorem wp_region_stable {id : Nat} {l : List Oper} {a0 : Act} {w0 : World} (n : Nat) (hm : P.follows .mixedOrders = true) (hB : stableB l n = true)
    (R : World → Prop) (E : World → World → Prop) (Φ : Nat → Value → World → Prop) (hR : ∀ w w', R w → E w w' → R w') (hΦ : ∀ i v w w', Φ i v w → E w w' → Φ i v w')
    (h0 : R { w0 with drawn := w0.drawn + 1 })
    (hstep : ∀ (i : Nat) (o : Oper) (vs : List Value) (w : World), i < n → l[i]? = some o → vs.length = n → R w → (∀ e ∈ o.after, Region.binds .any e = true → ∀ v, vs[e.on]? = some v → Φ e.on v w) →
      Gives P o (putAll a0 ((dstsOf l n).zip vs)) w fun v w' => E w w' ∧ Φ i v w')
    (htail : ∀ (vs : List Value) (w : World), vs.length = n → R w → (∀ i v, vs[i]? = some v → Φ i v w) → wpList P l.toArray Q (l.drop n) (putAll a0 ((dstsOf l n).zip vs)) w) :
    (Code.region id l.toArray true).wp P Q a0 w0 := by
  simp only [stableB, Bool.and_eq_true, decide_eq_true_eq, List.all_eq_true] at hB
  obtain ⟨⟨⟨⟨⟨⟨hn, hs⟩, hc⟩, hseq⟩, hdst⟩, hnd⟩, hback⟩ := hB
  have hdl : (dstsOf l n).length = n := by simp [dstsOf]; omega
  refine wp_region_any hm ?_
  -- the state: which operations have been carried out, what the temporaries hold
  have main : ∀ (f : Nat) (listed : Array Bool) (vs : List Value) (w : World), HeadInv .any l.toArray n listed → vs.length = n → R w →
      (∀ i v, i < n → listed.getD i false = true → vs[i]? = some v → Φ i v w) → (listed.toList.take n).count false = f →
      wpAny P .any l.toArray Q (f + (l.length - n)) listed (putAll a0 ((dstsOf l n).zip vs)) w := by
    intro f
    induction f with
    | zero =>
      intro listed vs w inv hv hw hphi hcnt
      have hall : ∀ i, i < n → listed.getD i false = true := by
        intro i hi
        have hsz : i < listed.size := by rw [inv.size]; simp; omega
        have hmem : listed.toList[i]? = some listed[i] := by simp [hsz]
        have hne : listed[i] ≠ false := by
          intro e
          have hm2 : false ∈ listed.toList.take n := by
            rw [List.mem_take_iff_getElem]
            exact ⟨i, by simp; omega, by simpa using e⟩
          have := List.count_pos_iff.2 hm2
          omega
        simp [hsz]; simpa using hne
      have hfull : listed = fullL l n := by
        apply Array.ext
        · rw [inv.size]; simp [fullL]
        · intro i h1 h2
          have hil : i < l.length := by rw [inv.size] at h1; simpa using h1
          simp only [fullL, List.getElem_toArray, List.getElem_map, List.getElem_range]
          by_cases hi : i < n
          · have := hall i hi; simp [h1] at this; simp [this, hi]
          · have := inv.tail i (by omega) (by simpa using hil); simp [h1] at this; simp [this, hi]
      subst hfull
      have hw' := htail vs w hv hw (fun i v hi => hphi i v (by have := (List.getElem?_eq_some_iff.1 hi).1; omega) (hall i (by have := (List.getElem?_eq_some_iff.1 hi).1; omega)) hi)
      have := wpAny_of_seq (md := .any) (Q' := Q) (l.drop n) n (fullL l n) _ w (fun j => by simp [List.getElem?_drop]) (by rw [List.length_drop]; exact hseq) hw'
      rw [List.length_drop] at this
      simpa using this
    | succ f ih =>
      intro listed vs w inv hv hw hphi hcnt
      have hun : ∃ i, i < n ∧ listed.getD i true = false := by
        have : 0 < (listed.toList.take n).count false := by omega
        have hm2 := List.count_pos_iff.1 this
        rw [List.mem_take_iff_getElem] at hm2
        obtain ⟨i, hi, hv2⟩ := hm2
        refine ⟨i, by simp at hi; omega, ?_⟩
        have hsz : i < listed.size := by simp at hi; omega
        rw [Array.getD_eq_getD_getElem?, Array.getElem?_eq_getElem hsz]; simpa using hv2
      rw [show f + 1 + (l.length - n) = (f + (l.length - n)) + 1 by omega]
      obtain ⟨i0, hi0, hu0⟩ := hun
      have hready_lt : ∀ i ∈ Region.ready .any l.toArray listed, i < n := by
        intro i hi
        rcases Nat.lt_or_ge i n with h | h
        · exact h
        · exact absurd hi (tail_waits hs hc (by simpa using hn) inv _ i0 rfl hi0 hu0 i h)
      have hne : Region.ready .any l.toArray listed ≠ [] := by
        -- the first operation that is not yet carried out and whose own conditions are all met: by the least such index
        intro hnil
        obtain ⟨m, hm1, hm2⟩ : ∃ m, (m < n ∧ listed.getD m true = false) ∧ ∀ k, k < m → ¬ (k < n ∧ listed.getD k true = false) := by
          have : ∀ m, (m < n ∧ listed.getD m true = false) → ∃ m, (m < n ∧ listed.getD m true = false) ∧ ∀ k, k < m → ¬ (k < n ∧ listed.getD k true = false) := by
            intro m
            induction m using Nat.strongRecOn with
            | _ m ihm =>
              intro h
              by_cases hex : ∃ k, k < m ∧ (k < n ∧ listed.getD k true = false)
              · obtain ⟨k, hk, hk2⟩ := hex; exact ihm k hk hk2
              · exact ⟨m, h, fun k hk hk2 => hex ⟨k, hk, hk2⟩⟩
          exact this i0 ⟨hi0, hu0⟩
        have hml : m < l.length := by omega
        have hmo : l[m]? = some l[m] := List.getElem?_eq_getElem hml
        have hb1 := hback m (List.mem_range.2 hm1.1)
        rw [hmo] at hb1
        simp only at hb1
        have hmr : m ∈ Region.ready .any l.toArray listed := by
          refine mem_ready.2 ⟨hm1.2, l[m], by simp, fun e he _ => ?_⟩
          have hlt : e.on < m := by
            have := (Array.all_eq_true_iff_forall_mem.1 hb1) e he
            simpa using this
          have hnot := hm2 e.on hlt
          cases hx : listed.getD e.on true with
          | true =>
            have hsz : e.on < listed.size := by rw [inv.size]; simp; omega
            simp [hsz] at hx ⊢; exact hx
          | false => exact absurd ⟨by omega, hx⟩ hnot
        rw [hnil] at hmr; cases hmr
      refine ⟨fun h => absurd h hne, fun i hi => ?_⟩
      have hin := hready_lt i hi
      obtain ⟨hlf, o, ho, hdeps⟩ := mem_ready.1 hi
      have ho' : l[i]? = some o := by simpa using ho
      have hmem : o ∈ l.take n := List.mem_take_iff_getElem.2 ⟨i, (by have := (List.getElem?_eq_some_iff.1 ho').1; omega), (List.getElem?_eq_some_iff.1 ho').2⟩
      have hdo := hdst o hmem
      obtain ⟨d, hd⟩ := Option.isSome_iff_exists.1 hdo.1
      have hg : o.guard = none := by simpa using hdo.2
      have hdi : (dstsOf l n)[i]? = some d := by
        simp [dstsOf, hin, ho', hd]
      have hgive := hstep i o vs w hin ho' hv hw (fun e he hb v hve => by
        have hle := hdeps e he hb
        have hen : e.on < n := by have := (List.getElem?_eq_some_iff.1 hve).1; omega
        exact hphi e.on v hen hle hve)
      unfold wpOp
      simp only [ho, Region.wanted, hg, if_true]
      refine .inl (hgive _ _ fun v w' hvw => ?_)
      rw [hd, ← putAll_set a0 (dstsOf l n) vs i d v hnd (by rw [hdl, hv]) hdi]
      have hsz : i < listed.size := by rw [inv.size]; simp; omega
      have hli : listed.toList[i]? = some false := by
        simp [hsz] at hlf ⊢; exact hlf
      refine ih (listed.setIfInBounds i true) (vs.set i v) w' (inv.set hi hin) (by simpa using hv) (hR w w' hw hvw.1) ?_ ?_
      · intro j u hj hlj huj
        by_cases e : j = i
        · subst e
          have hjl : j < vs.length := by omega
          rw [List.getElem?_set_self hjl] at huj
          cases huj; exact hvw.2
        · rw [List.getElem?_set_ne (fun h => e h.symm)] at huj
          rw [getD_set_ne false (fun h => e h.symm)] at hlj
          exact hΦ j u w w' (hphi j u hj hlj huj) hvw.1
      · have : (listed.setIfInBounds i true).toList.take n = (listed.toList.take n).set i true := by
          rw [Array.toList_setIfInBounds, List.take_set]
        rw [this]
        have h2 := count_set_lt (l := listed.toList.take n) (i := i) (by rw [List.getElem?_take, if_pos hin]; exact hli)
        omega
  have inv0 : HeadInv .any l.toArray n (Array.replicate l.toArray.size false) :=
    ⟨by simp, fun j oj _ hl => (by rw [getD_replicate_false] at hl; cases hl), fun t _ ht => getD_in (by simpa using ht) (getD_replicate_false _ _)⟩
  have := main n (Array.replicate l.toArray.size false) ((dstsOf l n).map fun d => a0.tmps.getD d undef) _ inv0 (by simpa using hdl) h0
    (fun i v _ hl _ => by rw [getD_replicate_false] at hl; cases hl) (by simp; omega)
  rw [putAll_same, show n + (l.length - n) = l.toArray.size by simp; omega] at this
  exact this
theorem wp_region_stableD {id : Nat} {l : List Oper} {a0 : Act} {w0 : World} (n : Nat) (ds : List Tmp) (hm : P.follows .mixedOrders = true) (hB : stableB l n = true) (hds : dstsOf l n = ds)
    (R : World → Prop) (E : World → World → Prop) (Φ : Nat → Value → World → Prop) (hR : ∀ w w', R w → E w w' → R w') (hΦ : ∀ i v w w', Φ i v w → E w w' → Φ i v w')
    (h0 : R w0.drew)
    (hstep : ∀ (i : Nat) (o : Oper) (vs : List Value) (w : World), i < n → l[i]? = some o → vs.length = n → R w → (∀ e ∈ o.after, Region.binds .any e = true → ∀ v, vs[e.on]? = some v → Φ e.on v w) →
      Gives P o (putAll a0 (ds.zip vs)) w fun v w' => E w w' ∧ Φ i v w')
    (htail : ∀ (vs : List Value) (w : World), vs.length = n → R w → (∀ i v, vs[i]? = some v → Φ i v w) → wpList P l.toArray Q (l.drop n) (putAll a0 (ds.zip vs)) w) :
    (Code.region id l.toArray true).wp P Q a0 w0 := by
  subst hds
  exact wp_region_stable n hm hB R E Φ hR hΦ h0 hstep htail
end Go.Proofs.YtmdhlkkekidknaaGreatDoor

namespace Go.Proofs.YtmdhlkkekidknaaGreatDoor
open Go.RowKit
variable {P : Program} {Q : Exit → Act → World → Prop}

def GivesG (P : Program) (ops : Array Oper) (o : Oper) (a : Act) (w : World) (Ψ : Value → World → Prop) : Prop :=
  (Region.wanted o (yielded ops a.tmps) = true ∧ Gives P o a w Ψ) ∨ (Region.wanted o (yielded ops a.tmps) = false ∧ Ψ undef w)
def stableGB (l : List Oper) (n : Nat) : Bool :=
  decide (n < l.length) && Region.sinkB .any l.toArray n && Region.chainB .any l.toArray n && Region.seqB .any l.toArray (l.length - n) n (fullL l n) &&
  (l.take n).all (fun o => o.dst.isSome) && decide (dstsOf l n).Nodup && (List.range n).all (fun i => match l[i]? with | some o => o.after.all (fun e => decide (e.on < i)) | none => false)

set_option maxHeartbeats 400000 in
theorem wp_region_stableG {id : Nat} {l : List Oper} {a0 : Act} {w0 : World} (n : Nat) (hm : P.follows .mixedOrders = true) (hB : stableGB l n = true)
    (R : World → Prop) (E : World → World → Prop) (Φ : Nat → Value → World → Prop) (hR : ∀ w w', R w → E w w' → R w') (hΦ : ∀ i v w w', Φ i v w → E w w' → Φ i v w')
    (h0 : R { w0 with drawn := w0.drawn + 1 })
    (hstep : ∀ (i : Nat) (o : Oper) (vs : List Value) (w : World), i < n → l[i]? = some o → vs.length = n → R w → (∀ e ∈ o.after, Region.binds .any e = true → ∀ v, vs[e.on]? = some v → Φ e.on v w) →
      GivesG P l.toArray o (putAll a0 ((dstsOf l n).zip vs)) w fun v w' => E w w' ∧ Φ i v w')
    (htail : ∀ (vs : List Value) (w : World), vs.length = n → R w → (∀ i v, vs[i]? = some v → Φ i v w) → wpList P l.toArray Q (l.drop n) (putAll a0 ((dstsOf l n).zip vs)) w) :
    (Code.region id l.toArray true).wp P Q a0 w0 := by
  simp only [stableGB, Bool.and_eq_true, decide_eq_true_eq, List.all_eq_true] at hB
  obtain ⟨⟨⟨⟨⟨⟨hn, hs⟩, hc⟩, hseq⟩, hdst⟩, hnd⟩, hback⟩ := hB
  have hdl : (dstsOf l n).length = n := by simp [dstsOf]; omega
  refine wp_region_any hm ?_
  -- the state: which operations have been carried out, what the temporaries hold
  have main : ∀ (f : Nat) (listed : Array Bool) (vs : List Value) (w : World), HeadInv .any l.toArray n listed → vs.length = n → R w →
      (∀ i v, i < n → listed.getD i false = true → vs[i]? = some v → Φ i v w) → (listed.toList.take n).count false = f →
      wpAny P .any l.toArray Q (f + (l.length - n)) listed (putAll a0 ((dstsOf l n).zip vs)) w := by
    intro f
    induction f with
    | zero =>
      intro listed vs w inv hv hw hphi hcnt
      have hall : ∀ i, i < n → listed.getD i false = true := by
        intro i hi
        have hsz : i < listed.size := by rw [inv.size]; simp; omega
        have hmem : listed.toList[i]? = some listed[i] := by simp [hsz]
        have hne : listed[i] ≠ false := by
          intro e
          have hm2 : false ∈ listed.toList.take n := by
            rw [List.mem_take_iff_getElem]
            exact ⟨i, by simp; omega, by simpa using e⟩
          have := List.count_pos_iff.2 hm2
          omega
        simp [hsz]; simpa using hne
      have hfull : listed = fullL l n := by
        apply Array.ext
        · rw [inv.size]; simp [fullL]
        · intro i h1 h2
          have hil : i < l.length := by rw [inv.size] at h1; simpa using h1
          simp only [fullL, List.getElem_toArray, List.getElem_map, List.getElem_range]
          by_cases hi : i < n
          · have := hall i hi; simp [h1] at this; simp [this, hi]
          · have := inv.tail i (by omega) (by simpa using hil); simp [h1] at this; simp [this, hi]
      subst hfull
      have hw' := htail vs w hv hw (fun i v hi => hphi i v (by have := (List.getElem?_eq_some_iff.1 hi).1; omega) (hall i (by have := (List.getElem?_eq_some_iff.1 hi).1; omega)) hi)
      have := wpAny_of_seq (md := .any) (Q' := Q) (l.drop n) n (fullL l n) _ w (fun j => by simp [List.getElem?_drop]) (by rw [List.length_drop]; exact hseq) hw'
      rw [List.length_drop] at this
      simpa using this
    | succ f ih =>
      intro listed vs w inv hv hw hphi hcnt
      have hun : ∃ i, i < n ∧ listed.getD i true = false := by
        have : 0 < (listed.toList.take n).count false := by omega
        have hm2 := List.count_pos_iff.1 this
        rw [List.mem_take_iff_getElem] at hm2
        obtain ⟨i, hi, hv2⟩ := hm2
        refine ⟨i, by simp at hi; omega, ?_⟩
        have hsz : i < listed.size := by simp at hi; omega
        rw [Array.getD_eq_getD_getElem?, Array.getElem?_eq_getElem hsz]; simpa using hv2
      rw [show f + 1 + (l.length - n) = (f + (l.length - n)) + 1 by omega]
      obtain ⟨i0, hi0, hu0⟩ := hun
      have hready_lt : ∀ i ∈ Region.ready .any l.toArray listed, i < n := by
        intro i hi
        rcases Nat.lt_or_ge i n with h | h
        · exact h
        · exact absurd hi (tail_waits hs hc (by simpa using hn) inv _ i0 rfl hi0 hu0 i h)
      have hne : Region.ready .any l.toArray listed ≠ [] := by
        -- the first operation that is not yet carried out and whose own conditions are all met: by the least such index
        intro hnil
        obtain ⟨m, hm1, hm2⟩ : ∃ m, (m < n ∧ listed.getD m true = false) ∧ ∀ k, k < m → ¬ (k < n ∧ listed.getD k true = false) := by
          have : ∀ m, (m < n ∧ listed.getD m true = false) → ∃ m, (m < n ∧ listed.getD m true = false) ∧ ∀ k, k < m → ¬ (k < n ∧ listed.getD k true = false) := by
            intro m
            induction m using Nat.strongRecOn with
            | _ m ihm =>
              intro h
              by_cases hex : ∃ k, k < m ∧ (k < n ∧ listed.getD k true = false)
              · obtain ⟨k, hk, hk2⟩ := hex; exact ihm k hk hk2
              · exact ⟨m, h, fun k hk hk2 => hex ⟨k, hk, hk2⟩⟩
          exact this i0 ⟨hi0, hu0⟩
        have hml : m < l.length := by omega
        have hmo : l[m]? = some l[m] := List.getElem?_eq_getElem hml
        have hb1 := hback m (List.mem_range.2 hm1.1)
        rw [hmo] at hb1
        simp only at hb1
        have hmr : m ∈ Region.ready .any l.toArray listed := by
          refine mem_ready.2 ⟨hm1.2, l[m], by simp, fun e he _ => ?_⟩
          have hlt : e.on < m := by
            have := (Array.all_eq_true_iff_forall_mem.1 hb1) e he
            simpa using this
          have hnot := hm2 e.on hlt
          cases hx : listed.getD e.on true with
          | true =>
            have hsz : e.on < listed.size := by rw [inv.size]; simp; omega
            simp [hsz] at hx ⊢; exact hx
          | false => exact absurd ⟨by omega, hx⟩ hnot
        rw [hnil] at hmr; cases hmr
      refine ⟨fun h => absurd h hne, fun i hi => ?_⟩
      have hin := hready_lt i hi
      obtain ⟨hlf, o, ho, hdeps⟩ := mem_ready.1 hi
      have ho' : l[i]? = some o := by simpa using ho
      have hmem : o ∈ l.take n := List.mem_take_iff_getElem.2 ⟨i, (by have := (List.getElem?_eq_some_iff.1 ho').1; omega), (List.getElem?_eq_some_iff.1 ho').2⟩
      have hdo := hdst o hmem
      obtain ⟨d, hd⟩ := Option.isSome_iff_exists.1 hdo
      have hdi : (dstsOf l n)[i]? = some d := by
        simp [dstsOf, hin, ho', hd]
      have hgive := hstep i o vs w hin ho' hv hw (fun e he hb v hve => by
        have hle := hdeps e he hb
        have hen : e.on < n := by have := (List.getElem?_eq_some_iff.1 hve).1; omega
        exact hphi e.on v hen hle hve)
      have hgo : ∀ v w', (E w w' ∧ Φ i v w') → wpAny P .any l.toArray Q (f + (l.length - n)) (listed.setIfInBounds i true) ((putAll a0 ((dstsOf l n).zip vs)).put o.dst v) w' := ?hgo
      case hgo =>
        intro v w' hvw
        rw [hd, ← putAll_set a0 (dstsOf l n) vs i d v hnd (by rw [hdl, hv]) hdi]
        have hsz : i < listed.size := by rw [inv.size]; simp; omega
        have hli : listed.toList[i]? = some false := by
          simp [hsz] at hlf ⊢; exact hlf
        refine ih (listed.setIfInBounds i true) (vs.set i v) w' (inv.set hi hin) (by simpa using hv) (hR w w' hw hvw.1) ?_ ?_
        · intro j u hj hlj huj
          by_cases e : j = i
          · subst e
            have hjl : j < vs.length := by omega
            rw [List.getElem?_set_self hjl] at huj
            cases huj; exact hvw.2
          · rw [List.getElem?_set_ne (fun h => e h.symm)] at huj
            rw [getD_set_ne false (fun h => e h.symm)] at hlj
            exact hΦ j u w w' (hphi j u hj hlj huj) hvw.1
        · have : (listed.setIfInBounds i true).toList.take n = (listed.toList.take n).set i true := by
            rw [Array.toList_setIfInBounds, List.take_set]
          rw [this]
          have h2 := count_set_lt (l := listed.toList.take n) (i := i) (by rw [List.getElem?_take, if_pos hin]; exact hli)
          omega
      unfold wpOp
      simp only [ho]
      rcases hgive with ⟨hw1, hw2⟩ | ⟨hw1, hw2⟩
      · rw [if_pos hw1]
        exact .inl (hw2 _ _ hgo)
      · rw [if_neg (by rw [hw1]; simp)]
        exact hgo undef w hw2
  have inv0 : HeadInv .any l.toArray n (Array.replicate l.toArray.size false) :=
    ⟨by simp, fun j oj _ hl => (by rw [getD_replicate_false] at hl; cases hl), fun t _ ht => getD_in (by simpa using ht) (getD_replicate_false _ _)⟩
  have := main n (Array.replicate l.toArray.size false) ((dstsOf l n).map fun d => a0.tmps.getD d undef) _ inv0 (by simpa using hdl) h0
    (fun i v _ hl _ => by rw [getD_replicate_false] at hl; cases hl) (by simp; omega)
  rw [putAll_same, show n + (l.length - n) = l.toArray.size by simp; omega] at this
  exact this
theorem wp_region_stableGD {id : Nat} {l : List Oper} {a0 : Act} {w0 : World} (n : Nat) (ds : List Tmp) (hm : P.follows .mixedOrders = true) (hB : stableGB l n = true) (hds : dstsOf l n = ds)
    (R : World → Prop) (E : World → World → Prop) (Φ : Nat → Value → World → Prop) (hR : ∀ w w', R w → E w w' → R w') (hΦ : ∀ i v w w', Φ i v w → E w w' → Φ i v w')
    (h0 : R w0.drew)
    (hstep : ∀ (i : Nat) (o : Oper) (vs : List Value) (w : World), i < n → l[i]? = some o → vs.length = n → R w → (∀ e ∈ o.after, Region.binds .any e = true → ∀ v, vs[e.on]? = some v → Φ e.on v w) →
      GivesG P l.toArray o (putAll a0 (ds.zip vs)) w fun v w' => E w w' ∧ Φ i v w')
    (htail : ∀ (vs : List Value) (w : World), vs.length = n → R w → (∀ i v, vs[i]? = some v → Φ i v w) → wpList P l.toArray Q (l.drop n) (putAll a0 (ds.zip vs)) w) :
    (Code.region id l.toArray true).wp P Q a0 w0 := by
  subst hds
  exact wp_region_stableG n hm hB R E Φ hR hΦ h0 hstep htail
def vPhi (vals : List Value) (i : Nat) (v : Value) (_ : World) : Prop := ∀ u, vals[i]? = some u → v = u
end Go.Proofs.YtmdhlkkekidknaaGreatDoor

namespace Go.Proofs.YtmdhlkkekidknaaGreatDoor
open Go.RowKit Go.Maps

theorem le_not_less {a b : ByteArray} {le : Bool} (h : (Op.bytesLess a.toList b.toList || a.toList == b.toList) = le) : less b a = !le := by
  rw [less_str, str_dec] at h
  subst h
  by_cases e : a = b
  · subst e; simp [lessB_irrefl]
  · simp only [e, decide_false, Bool.or_false]
    cases h1 : less a b with
    | true => rw [lessB_asymm h1]; rfl
    | false =>
      cases h2 : less b a with
      | true => rfl
      | false => exact absurd (lessB_conn h1 h2) e

end Go.Proofs.YtmdhlkkekidknaaGreatDoor

namespace Go.Proofs.YtmdhlkkekidknaaGreatDoor
open Go.RowKit Go.Maps

def pG (l : List ByteArray) : ByteArray → Option Value := fun s => if memB l s then some (.bool true) else none
theorem pG_nil : pG [] = fun _ => none := by funext s; simp [pG, memB]
theorem pG_snoc (l : List ByteArray) (x : ByteArray) : pG (l ++ [x]) = upd (pG l) x (.bool true) := by
  funext t
  unfold pG upd memB
  by_cases e : t = x
  · subst e; simp
  · have h : ((l ++ [x]).any fun y => decide (y = t)) = l.any fun y => decide (y = t) := by
      rw [List.any_append]; simp [Ne.symm e]
    rw [h, if_neg e]
theorem pG_get (l : List ByteArray) (x : ByteArray) : (pG l x).getD (.bool false) = .bool (memB l x) := by unfold pG; cases memB l x <;> rfl
theorem Apd.grown {w w' : World} {base size n c : Nat} {e : TypeId} {A : Option Addr} {xs : List Value} {row : Option Nat} (h : Apd w base e size A n c xs) (hg : w.grownBy w' row) (hr : ∀ k, row = some k → k < base) : Apd w' base e size A n c xs := by
  rcases h with h | h
  · refine .inl (h.kept hg ?_)
    cases hv : (Value.slice A n c).ownBlock with
    | none => exact .inl rfl
    | some k => exact .inr fun e => by have h1 := ownBlock_ge h k hv; have h2 := hr k e.symm; omega
  · exact .inr h
end Go.Proofs.YtmdhlkkekidknaaGreatDoor

namespace Go.Proofs.YtmdhlkkekidknaaGreatDoor
open Go.RowKit

theorem src_txt (s : ByteArray) (w : World) : Src Tryz.prog 1 9 (.string s) s.size (bc (toL s)) w := Src.ofString (P := Tryz.prog) w Tryz.underlying9 s
theorem infoByt : (Tryz.prog.info? 5).map (fun i => (i.zero, i.size, i.bytes)) = some (some (.int .u8 0), 1, 1) := by kernel_rfl
theorem Txt.far {w : World} {base av n c : Nat} {A : Option Addr} {bs : Bytes} (h : Txt w base av A n c bs) {p : Addr} (hp : p.block = av) (u : Value) : Txt (w.setCell p u) base av A n c bs :=
  ⟨h.len, h.le, h.max, fun h0 => by
    obtain ⟨b, off, e, h1, h2, h3, h4⟩ := h.lies h0
    have hb : (w.setCell p u).heap[b]? = w.heap[b]? := Below.heap_setCell w p u b (by rw [hp]; exact h1.2)
    have ec : ∀ o, (w.setCell p u).cell? ⟨b, o, none⟩ = w.cell? ⟨b, o, none⟩ := fun o => World.cell?_of_block (a := ⟨b, o, none⟩) hb
    have ef : ∀ o, (w.setCell p u).frozen? ⟨b, o, none⟩ = w.frozen? ⟨b, o, none⟩ := fun o => World.frozen?_of_block (a := ⟨b, o, none⟩) hb
    exact ⟨b, off, e, h1, by simpa using h2, fun j hj => (ec _).trans (h3 j hj), fun j hj => ⟨by rw [ec]; exact (h4 j hj).1, (ef _).trans (h4 j hj).2⟩⟩⟩
theorem halt_txt {P : Program} {ops : Array Oper} {rest : List Oper} {o : Oper} {a : Act} {w : World} {Q : Exit → Act → World → Prop} (s x : Operand) (t tx : TypeId) (_ : o.op = .call { callee := .builtin .append, args := #[s, x], argTypes := #[t, tx] })
    (h : Hid (wpList P ops Q (o :: rest) a w)) : wpList P ops Q (o :: rest) a w := h
structure Wrt (w : World) (b base : Nat) (bs : Bytes) : Prop where
  ex : ∃ A c, Bk w b 163 #[.slice A bs.length c, .bool false] ∧ Txt w base b A bs.length c bs
  lt : b < base
  le : base ≤ w.heap.size
theorem Wrt.below {w w' : World} {b base : Nat} {bs : Bytes} (h : Wrt w b base bs) (hb : Below w.heap.size w w') : Wrt w' b base bs := by
  obtain ⟨A, c, h1, h2⟩ := h.ex
  exact ⟨⟨A, c, h1.below hb h1.lt, h2.below hb⟩, h.lt, Nat.le_trans h.le hb.size⟩
def WrtEnd (b base : Nat) (bs : Bytes) (w : World) (e : Ending) (w' : World) : Prop := e = .returned (.tuple #[]) ∧ Wrt w' b base bs ∧ Below b w w' ∧ w.heap.size ≤ w'.heap.size

set_option maxRecDepth 100000 in
set_option maxHeartbeats 2000000 in
theorem wnumber_any (b base k : Nat) (bs : Bytes) (w : World) (h : Wrt w b base bs) (hk : k ≤ 1099511627776) (hn : bs.length ≤ 1000000) :
    Calls Tryz.prog 141 #[.pointer (some ⟨b, 0, none⟩), .int .i64 k] w (WrtEnd b base (bs ++ encN k) w) := by
  have HP := Lib.hid (putInt_any k hk w)
  have H := Lib.hid h
  have hle := encN_len 5 k (by omega)
  obtain ⟨i0, hi, hz0, hz1, hz2⟩ := info_parts infoByt
  have Hi := Lib.hid hi; have Hz0 := Lib.hid hz0; have Hz1 := Lib.hid hz1; have Hz2 := Lib.hid hz2
  clear h hi hz0 hz1 hz2
  go_enter Tryz.func141, Tryz.ntmps141
  go_wp2_with (go_at_call 192; refine HP.out.mono ?_; rintro e w1 ⟨rfl, hb1⟩; refine halt_ ?_)
  refine unhalt ?_
  have H1 := H.out.below hb1
  obtain ⟨A, c, hk1, ht1⟩ := H1.ex
  have hlt := H1.lt; have hbase := H1.le
  have HB1 : Hid (Below b w w1) := hb1.mono (by have := H.out.lt; have := H.out.le; omega)
  have hz1 := hb1.size
  have HK1 := Lib.hid hk1; have HT1 := Lib.hid ht1
  have c0 := HK1.out.cell 0; have c1 := HK1.out.cell 1; have f1 := HK1.out.free 1
  simp at c0 c1
  clear hb1 H1 hk1 ht1
  obtain ⟨W2, hW2⟩ : ∃ W2, w1.setCell ⟨b, 1, none⟩ (.bool false) = W2 := ⟨_, rfl⟩
  have HK2 : Hid (Bk W2 b 163 #[.slice A bs.length c, .bool false]) := by
    rw [← hW2]; have := HK1.out.set 1 (.bool false); show Bk _ _ _ _; simpa using this
  have HT2 : Hid (Txt W2 base b A bs.length c bs) := by rw [← hW2]; exact HT1.out.far rfl _
  have HB2 : Hid (Below b w W2) := by rw [← hW2]; exact HB1.out.setCell (p := ⟨b, 1, none⟩) (Nat.le_refl _) _
  have zW2 : W2.heap.size = w1.heap.size := by rw [← hW2]; simp
  have d0 := HK2.out.cell 0; have g0 := HK2.out.free 0
  simp at d0
  go_wp2_with (at_builtin; refine halt_txt (.tmp 26) (.tmp 27) 161 9 rfl ?_)
  refine unhalt ?_
  refine wpList_append_txt (base := base) (av := b) rfl (.tmp 26) (.tmp 27) 161 9 rfl 5 i0 Tryz.underlying161 Hi.out Hz0.out Hz1.out Hz2.out A bs.length c bs rfl HT2.out (.string (ofL (encN k))) (encN k).length (encN k) rfl (src_txt (ofL (encN k)) _) (by omega) (by omega) (by omega) ?_
  intro A' c' w3 ht3 hb3 hk3
  have HK3 : Hid (Bk w3 b 163 #[.slice A bs.length c, .bool false]) := hk3.trans HK2.out
  have HT3 := Lib.hid ht3
  have HB3 : Hid (Below b w w3) := HB2.out.trans (hb3.mono (by omega))
  have hz3 := hb3.size
  have e0 := HK3.out.cell 0; have e1 := HK3.out.free 0
  simp at e0
  clear ht3 hb3 hk3 d0 g0 c0 c1 f1
  go_wp2_with fail
  go_end0
  have hl : (bs ++ encN k).length = bs.length + (encN k).length := by simp
  refine ⟨rfl, ⟨⟨A', c', ?_, ?_⟩, hlt, by simp; omega⟩, HB3.out.setCell (p := ⟨b, 0, none⟩) (Nat.le_refl _) _, by simp; omega⟩
  · rw [hl]; have := HK3.out.set 0 (.slice A' (bs.length + (encN k).length) c'); show Bk _ _ _ _; simpa using this
  · rw [hl]; exact HT3.out.far rfl _
set_option maxRecDepth 100000 in
set_option maxHeartbeats 2000000 in
theorem wstring_any (b base : Nat) (s : ByteArray) (bs : Bytes) (w : World) (h : Wrt w b base bs) (hk : s.size ≤ 65536) (hn : bs.length ≤ 1000000) :
    Calls Tryz.prog 142 #[.pointer (some ⟨b, 0, none⟩), .string s] w (WrtEnd b base (bs ++ encT (toL s)) w) := by
  have HP := Lib.hid (putText_any s hk w)
  have H := Lib.hid h
  have hle : (encT (toL s)).length ≤ 70000 := by
    have h1 := encN_len 5 s.size (by omega)
    have h2 := size_toL s
    unfold encT; rw [List.length_append, ← h2]; omega
  obtain ⟨i0, hi, hz0, hz1, hz2⟩ := info_parts infoByt
  have Hi := Lib.hid hi; have Hz0 := Lib.hid hz0; have Hz1 := Lib.hid hz1; have Hz2 := Lib.hid hz2
  clear h hi hz0 hz1 hz2
  go_enter Tryz.func142, Tryz.ntmps142
  go_wp2_with (go_at_call 193; refine HP.out.mono ?_; rintro e w1 ⟨rfl, hb1⟩; refine halt_ ?_)
  refine unhalt ?_
  have H1 := H.out.below hb1
  obtain ⟨A, c, hk1, ht1⟩ := H1.ex
  have hlt := H1.lt; have hbase := H1.le
  have HB1 : Hid (Below b w w1) := hb1.mono (by have := H.out.lt; have := H.out.le; omega)
  have hz1 := hb1.size
  have HK1 := Lib.hid hk1; have HT1 := Lib.hid ht1
  have c0 := HK1.out.cell 0; have c1 := HK1.out.cell 1; have f1 := HK1.out.free 1
  simp at c0 c1
  clear hb1 H1 hk1 ht1
  obtain ⟨W2, hW2⟩ : ∃ W2, w1.setCell ⟨b, 1, none⟩ (.bool false) = W2 := ⟨_, rfl⟩
  have HK2 : Hid (Bk W2 b 163 #[.slice A bs.length c, .bool false]) := by
    rw [← hW2]; have := HK1.out.set 1 (.bool false); show Bk _ _ _ _; simpa using this
  have HT2 : Hid (Txt W2 base b A bs.length c bs) := by rw [← hW2]; exact HT1.out.far rfl _
  have HB2 : Hid (Below b w W2) := by rw [← hW2]; exact HB1.out.setCell (p := ⟨b, 1, none⟩) (Nat.le_refl _) _
  have zW2 : W2.heap.size = w1.heap.size := by rw [← hW2]; simp
  have d0 := HK2.out.cell 0; have g0 := HK2.out.free 0
  simp at d0
  go_wp2_with (at_builtin; refine halt_txt (.tmp 25) (.tmp 26) 161 9 rfl ?_)
  refine unhalt ?_
  refine wpList_append_txt (base := base) (av := b) rfl (.tmp 25) (.tmp 26) 161 9 rfl 5 i0 Tryz.underlying161 Hi.out Hz0.out Hz1.out Hz2.out A bs.length c bs rfl HT2.out (.string (ofL (encT (toL s)))) (encT (toL s)).length (encT (toL s)) rfl (src_txt (ofL (encT (toL s))) _) (by omega) (by omega) (by omega) ?_
  intro A' c' w3 ht3 hb3 hk3
  have HK3 : Hid (Bk w3 b 163 #[.slice A bs.length c, .bool false]) := hk3.trans HK2.out
  have HT3 := Lib.hid ht3
  have HB3 : Hid (Below b w w3) := HB2.out.trans (hb3.mono (by omega))
  have hz3 := hb3.size
  have e0 := HK3.out.cell 0; have e1 := HK3.out.free 0
  simp at e0
  clear ht3 hb3 hk3 d0 g0 c0 c1 f1
  go_wp2_with fail
  go_end0
  have hl : (bs ++ encT (toL s)).length = bs.length + (encT (toL s)).length := by simp
  refine ⟨rfl, ⟨⟨A', c', ?_, ?_⟩, hlt, by simp; omega⟩, HB3.out.setCell (p := ⟨b, 0, none⟩) (Nat.le_refl _) _, by simp; omega⟩
  · rw [hl]; have := HK3.out.set 0 (.slice A' (bs.length + (encT (toL s)).length) c'); show Bk _ _ _ _; simpa using this
  · rw [hl]; exact HT3.out.far rfl _
@[go_sem] theorem guardDgo : Tryz.prog.eqGuardType Tryz.prog.depth 30 = false := by kernel_rfl
theorem eqDgo0 (dd : Nat) (a b c d : Int) (w : World) : (Op.equalIn (dd + 2) 30 (.agg #[.int .u64 a, .int .u64 b]) (.agg #[.int .u64 c, .int .u64 d])).run Tryz.prog w = .ok (a == c && b == d) w := by
  have u3 := Tryz.underlying28
  have a3 := Tryz.isAgg28
  have z3 := Tryz.sizeOf28
  rw [Op.equalIn]
  simp only [Sem.run_bind, run_underlying Tryz.underlying30, Result.andThen_ok]
  simp only [Std.Legacy.Range.forIn_eq_forIn_range', Std.Legacy.Range.size, Nat.sub_zero, Nat.add_sub_cancel, Nat.div_one, List.range'_succ, List.range'_zero, List.forIn_cons, List.forIn_nil]
  go_simp
  by_cases h1 : a = c <;> by_cases h2 : b = d <;> simp [h1, h2]
@[go_sem high] theorem eqDgo (a b c d : Int) (w : World) : (Op.equalIn 10000 30 (.agg #[.int .u64 a, .int .u64 b]) (.agg #[.int .u64 c, .int .u64 d])).run Tryz.prog w = .ok (a == c && b == d) w := eqDgo0 9998 a b c d w
def blobC (d : ByteArray) : Array Value := #[.int .i64 1, .string d, .slice none 0 0, .int .u64 0, .int .u64 0, .slice none 0 0, .string ⟨#[]⟩, .int .i64 0, .string ⟨#[]⟩]
theorem resultsBlb {w : World} {a : Array Value} {b : Nat} {d : ByteArray} (ha : a[2]?.getD undef = .pointer (some ⟨b, 0, none⟩)) (h : Bk w b 82 (blobC d)) : (results Tryz.f56 a).run Tryz.prog w = .ok (.agg (blobC d)) w := by
  have c0 := h.cell 0; have c1 := h.cell 1; have c2 := h.cell 2; have c3 := h.cell 3; have c4 := h.cell 4; have c5 := h.cell 5; have c6 := h.cell 6; have c7 := h.cell 7; have c8 := h.cell 8
  simp [blobC] at c0 c1 c2 c3 c4 c5 c6 c7 c8
  simp [results, Tryz.results56, ha, go_sem, blobC, c0, c1, c2, c3, c4, c5, c6, c7, c8]
theorem blob_any (d : ByteArray) (w : World) : Calls Tryz.prog 56 #[.string d] w fun e w' => e = .returned (.agg (blobC d)) ∧ Below w.heap.size w w' := by
  go_enter Tryz.func56, Tryz.ntmps56
  go_wp2
  have hk : Bk (w.alloc (.cells (blobC d) 82)) w.heap.size 82 (blobC d) := Bk.new w _ _
  exact bodyPost_ret (resultsBlb rfl hk) rfl ⟨rfl, (Below.refl _ w).alloc (Nat.le_refl _) _⟩
set_option maxRecDepth 100000 in
set_option maxHeartbeats 2000000 in
theorem ocheck1_any (d : ByteArray) (w : World) : Calls Tryz.prog 140 #[.agg (blobC d)] w fun e w' => e = .returned (.int .i64 0) ∧ Below w.heap.size w w' := by
  unfold blobC
  go_enter Tryz.func140, Tryz.ntmps140
  go_wp2
  all_goals (go_ret; exact ⟨rfl, (Below.refl _ w).alloc (Nat.le_refl _) _⟩)
set_option maxRecDepth 100000 in
set_option maxHeartbeats 2000000 in
theorem oenc_any (d : ByteArray) (w : World) (hd : d.size ≤ 60000) : Calls Tryz.prog 106 #[.agg (blobC d)] w fun e w' => e = .returned (.tuple #[.string (ofL (encN 1 ++ encT (toL d))), .int .i64 0]) ∧ Below w.heap.size w w' := by
  have hsd := size_toL d
  have hle : (encT (toL d)).length ≤ 60006 := by
    have h1 := encN_len 5 d.size (by omega)
    unfold encT; rw [List.length_append, ← hsd]; omega
  have hl1 : (encN 1).length = 1 := by rw [encN_small (by omega)]; rfl
  have HC := fun w => Lib.hid (ocheck1_any d w)
  unfold blobC at HC ⊢
  obtain ⟨W0, hW0⟩ : ∃ W0, w.alloc (.cells #[.int .i64 1, .string d, .slice none 0 0, .int .u64 0, .int .u64 0, .slice none 0 0, .string ⟨#[]⟩, .int .i64 0, .string ⟨#[]⟩] 82) = W0 := ⟨_, rfl⟩
  have HB0 : Hid (Below w.heap.size w W0) := by rw [← hW0]; exact (Below.refl _ w).alloc (Nat.le_refl _) _
  have HK0 : Hid (Bk W0 w.heap.size 82 #[.int .i64 1, .string d, .slice none 0 0, .int .u64 0, .int .u64 0, .slice none 0 0, .string ⟨#[]⟩, .int .i64 0, .string ⟨#[]⟩]) := by rw [← hW0]; exact Bk.new w _ _
  have zW0 : W0.heap.size = w.heap.size + 1 := by rw [← hW0]; simp
  have HC0 := HC W0
  have c0 := HK0.out.cell 0; have c1 := HK0.out.cell 1; have c2 := HK0.out.cell 2; have c3 := HK0.out.cell 3; have c4 := HK0.out.cell 4; have c5 := HK0.out.cell 5; have c6 := HK0.out.cell 6; have c7 := HK0.out.cell 7; have c8 := HK0.out.cell 8
  simp at c0 c1 c2 c3 c4 c5 c6 c7 c8
  clear HC
  go_enter Tryz.func106, Tryz.ntmps106
  go_wp2_with fail
  refine HC0.out.mono ?_
  rintro e w1 ⟨rfl, hb1⟩
  have HB1 : Hid (Below w.heap.size w w1) := HB0.out.trans (hb1.mono (by omega))
  have HK1 := Lib.hid (HK0.out.below hb1 (by omega))
  have hz1 := hb1.size
  clear hb1 hW0 c0 c1 c2 c3 c4 c5 c6 c7 c8 HC0
  obtain ⟨W2, hW2⟩ : ∃ W2, w1.alloc (.cells #[.slice none 0 0, .bool false] 163) = W2 := ⟨_, rfl⟩
  have zW2 : W2.heap.size = w1.heap.size + 1 := by rw [← hW2]; simp
  have HB2 : Hid (Below w1.heap.size w1 W2) := by rw [← hW2]; exact (Below.refl _ w1).alloc (Nat.le_refl _) _
  have HW2 : Hid (Wrt W2 w1.heap.size (w1.heap.size + 1) []) := ⟨⟨none, 0, by rw [← hW2]; exact Bk.new w1 _ _, Txt.nil _ _ _ _⟩, by omega, by omega⟩
  have HK2 := Lib.hid (HK1.out.below HB2.out (by omega))
  have HN := Lib.hid (wnumber_any w1.heap.size (w1.heap.size + 1) 1 [] W2 HW2.out (by omega) (by simp))
  have c0 := HK2.out.cell 0
  simp at c0
  go_wp2_with (go_at_call 141; refine HN.out.mono ?_; rintro e w3 ⟨rfl, hw3, hb3, hz3⟩; refine halt_ ?_)
  refine unhalt ?_
  have HW3 := Lib.hid hw3
  have HB3 : Hid (Below w1.heap.size w1 w3) := HB2.out.trans hb3
  have HK3 := Lib.hid (HK2.out.below hb3 (by omega))
  clear hw3 hb3 hW2 c0 HN
  have HS := Lib.hid (wstring_any w1.heap.size (w1.heap.size + 1) d (([] : Bytes) ++ encN 1) w3 HW3.out (by omega) (by simp [hl1]))
  have c0 := HK3.out.cell 0; have c1 := HK3.out.cell 1
  simp at c0 c1
  go_wp2_with (go_at_call 142; refine HS.out.mono ?_; rintro e w4 ⟨rfl, hw4, hb4, hz4⟩; refine halt_ ?_)
  refine unhalt ?_
  obtain ⟨A, cc, hk4, ht4⟩ := hw4.ex
  rw [List.nil_append] at hk4 ht4
  have hln : (encN 1 ++ encT (toL d)).length ≤ 60007 := by rw [List.length_append, hl1]; omega
  have hlz : ¬ (65536 : Int) < ((encN 1 ++ encT (toL d)).length : Int) := by omega
  have HB4 : Hid (Below w1.heap.size w1 w4) := HB3.out.trans hb4
  have d0 := hk4.cell 0; have d1 := hk4.cell 1
  simp only [List.getElem?_toArray, List.getElem?_cons_zero, List.getElem?_cons_succ] at d0 d1
  have hcv := ht4.run_string (P := Tryz.prog) 161 9 5 Tryz.underlying161 Tryz.underlying5 Tryz.underlying9
  obtain ⟨bs, hbs⟩ : ∃ bs, encN 1 ++ encT (toL d) = bs := ⟨_, rfl⟩
  rw [hbs] at d0 hcv hlz
  have HBS := Lib.hid hbs
  clear hw4 hb4 hk4 ht4 c0 c1 HS hln hbs
  go_wp2_with fail
  go_ret2
  refine ⟨by rw [HBS.out]; rfl, HB1.out.trans (HB4.out.mono (by omega))⟩
set_option maxHeartbeats 1000000 in
theorem ocheck_any (d : ByteArray) (w : World) (hd : d.size ≤ 60000) : Calls Tryz.prog 55 #[.agg (blobC d)] w fun e w' => e = .returned (.int .i64 0) ∧ Below w.heap.size w w' := by
  have HE := fun w => Lib.hid (oenc_any d w hd)
  unfold blobC at HE ⊢
  have HB0 : Hid (Below w.heap.size w (w.alloc (.cells #[.int .i64 1, .string d, .slice none 0 0, .int .u64 0, .int .u64 0, .slice none 0 0, .string ⟨#[]⟩, .int .i64 0, .string ⟨#[]⟩] 82))) := (Below.refl _ w).alloc (Nat.le_refl _) _
  have HE0 := HE (w.alloc (.cells #[.int .i64 1, .string d, .slice none 0 0, .int .u64 0, .int .u64 0, .slice none 0 0, .string ⟨#[]⟩, .int .i64 0, .string ⟨#[]⟩] 82))
  clear HE
  go_enter Tryz.func55, Tryz.ntmps55
  go_wp2_with (go_at_call 106; refine HE0.out.mono ?_; rintro e w1 ⟨rfl, hb1⟩)
  go_ret
  exact ⟨rfl, HB0.out.trans (hb1.mono (by simp))⟩
end Go.Proofs.YtmdhlkkekidknaaGreatDoor

namespace Go.Proofs.YtmdhlkkekidknaaGreatDoor
open Go.RowKit

def gPhi (S : List (Nat × (Value → World → Prop))) (vals : List Value) (i : Nat) (v : Value) (W : World) : Prop :=
  match S.lookup i with
  | some p => p v W
  | none => vPhi vals i v W
theorem lookup_mem {β : Type _} : ∀ {S : List (Nat × β)} {i : Nat} {p : β}, S.lookup i = some p → ∃ x ∈ S, x.2 = p
  | [], i, p, h => by cases h
  | (j, q) :: S, i, p, h => by
    rw [List.lookup_cons] at h
    cases e : i == j with
    | true => rw [e] at h; cases h; exact ⟨_, List.mem_cons_self, rfl⟩
    | false =>
      rw [e] at h
      obtain ⟨x, hx, e⟩ := lookup_mem h
      exact ⟨x, List.mem_cons_of_mem _ hx, e⟩
theorem gPhi_keep {S : List (Nat × (Value → World → Prop))} {vals : List Value} (hS : ∀ x ∈ S, ∀ v W W', x.2 v W → Below W.heap.size W W' → x.2 v W') (i : Nat) (v : Value) (W W' : World) (h : gPhi S vals i v W) (hb : Below W.heap.size W W') : gPhi S vals i v W' := by
  unfold gPhi at h ⊢
  cases e : S.lookup i with
  | none => rw [e] at h; exact h
  | some p =>
    rw [e] at h
    obtain ⟨x, hx, rfl⟩ := lookup_mem e
    exact hS x hx v W W' h hb
end Go.Proofs.YtmdhlkkekidknaaGreatDoor

namespace Go.Proofs.YtmdhlkkekidknaaGreatDoor
open Go.RowKit Go.Maps

theorem wrap_sm {x : Int} (h1 : -9223372036854775808 ≤ x) (h2 : x < 9223372036854775808) : IntKind.i64.wrap x = x := by
  simp [IntKind.wrap, IntKind.bits, IntKind.signed]; omega
end Go.Proofs.YtmdhlkkekidknaaGreatDoor

namespace Go.Proofs.YtmdhlkkekidknaaGreatDoor

theorem ls5 {vs : List Value} (h : vs.length = 5) : ∃ v0 v1 v2 v3 v4, vs = v0 :: v1 :: v2 :: v3 :: v4 :: [] := by
  match vs, h with
  | v0 :: v1 :: v2 :: v3 :: v4 :: [], _ => exact ⟨_, _, _, _, _, rfl⟩
theorem ls7 {vs : List Value} (h : vs.length = 7) : ∃ v0 v1 v2 v3 v4 v5 v6, vs = v0 :: v1 :: v2 :: v3 :: v4 :: v5 :: v6 :: [] := by
  match vs, h with
  | v0 :: v1 :: v2 :: v3 :: v4 :: v5 :: v6 :: [], _ => exact ⟨_, _, _, _, _, _, _, rfl⟩
theorem ls10 {vs : List Value} (h : vs.length = 10) : ∃ v0 v1 v2 v3 v4 v5 v6 v7 v8 v9, vs = v0 :: v1 :: v2 :: v3 :: v4 :: v5 :: v6 :: v7 :: v8 :: v9 :: [] := by
  match vs, h with
  | v0 :: v1 :: v2 :: v3 :: v4 :: v5 :: v6 :: v7 :: v8 :: v9 :: [], _ => exact ⟨_, _, _, _, _, _, _, _, _, _, rfl⟩
theorem ls11 {vs : List Value} (h : vs.length = 11) : ∃ v0 v1 v2 v3 v4 v5 v6 v7 v8 v9 v10, vs = v0 :: v1 :: v2 :: v3 :: v4 :: v5 :: v6 :: v7 :: v8 :: v9 :: v10 :: [] := by
  match vs, h with
  | v0 :: v1 :: v2 :: v3 :: v4 :: v5 :: v6 :: v7 :: v8 :: v9 :: v10 :: [], _ => exact ⟨_, _, _, _, _, _, _, _, _, _, _, rfl⟩
theorem ls12 {vs : List Value} (h : vs.length = 12) : ∃ v0 v1 v2 v3 v4 v5 v6 v7 v8 v9 v10 v11, vs = v0 :: v1 :: v2 :: v3 :: v4 :: v5 :: v6 :: v7 :: v8 :: v9 :: v10 :: v11 :: [] := by
  match vs, h with
  | v0 :: v1 :: v2 :: v3 :: v4 :: v5 :: v6 :: v7 :: v8 :: v9 :: v10 :: v11 :: [], _ => exact ⟨_, _, _, _, _, _, _, _, _, _, _, _, rfl⟩
theorem ls13 {vs : List Value} (h : vs.length = 13) : ∃ v0 v1 v2 v3 v4 v5 v6 v7 v8 v9 v10 v11 v12, vs = v0 :: v1 :: v2 :: v3 :: v4 :: v5 :: v6 :: v7 :: v8 :: v9 :: v10 :: v11 :: v12 :: [] := by
  match vs, h with
  | v0 :: v1 :: v2 :: v3 :: v4 :: v5 :: v6 :: v7 :: v8 :: v9 :: v10 :: v11 :: v12 :: [], _ => exact ⟨_, _, _, _, _, _, _, _, _, _, _, _, _, rfl⟩
theorem ls20 {vs : List Value} (h : vs.length = 20) : ∃ v0 v1 v2 v3 v4 v5 v6 v7 v8 v9 v10 v11 v12 v13 v14 v15 v16 v17 v18 v19, vs = v0 :: v1 :: v2 :: v3 :: v4 :: v5 :: v6 :: v7 :: v8 :: v9 :: v10 :: v11 :: v12 :: v13 :: v14 :: v15 :: v16 :: v17 :: v18 :: v19 :: [] := by
  match vs, h with
  | v0 :: v1 :: v2 :: v3 :: v4 :: v5 :: v6 :: v7 :: v8 :: v9 :: v10 :: v11 :: v12 :: v13 :: v14 :: v15 :: v16 :: v17 :: v18 :: v19 :: [], _ => exact ⟨_, _, _, _, _, _, _, _, _, _, _, _, _, _, _, _, _, _, _, _, rfl⟩
end Go.Proofs.YtmdhlkkekidknaaGreatDoor
