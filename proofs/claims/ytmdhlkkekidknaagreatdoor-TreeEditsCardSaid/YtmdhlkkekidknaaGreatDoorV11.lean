/-
  Lemmas: DERIVED: THE SHELF's CONTRACTS AT THIS DUMP, IN PLAIN WORDS (tools/lay-plain.mjs out of 'TryzSsp.lean', which tools/lay-shelf.mjs wrote): THE SAME DECLARATIONS UNDER THE SAME NAMES: 'import', 'namespace', 'open', 'def', 'theorem' AND NOTHING ELSE: no command of the shelf's: FOR A HAND-IN. Each laying: the table of numbers ('.._ren') and one theorem, a field a fact of the dump's own or the kernel's comparison; each contract: ONE APPLICATION. graph.find by dependences, and graph.Deps. A map's keys collected and appended: slices.Collect, slices.AppendSeq over maps.Keys. The two maps of tree.store: what they hold of the files that have been looked at. The reference's lists of files with one more, or without one: Without, With, inside. Reading one file of a tree; in plain Lean. tree.data; tree.visit, handed a yield. tree.visit.
-/
import Derived.Shelf.SlicesQ.IndexFunc
import Derived.Shelf.Strings.Split
import Derived.Shelf.SlIter.Stops
import Derived.Ground.SlgfProg
import Derived.Ground.GgzProg
import Derived.Ground.NamesProg
import Derived.Test.YtmdhlkkekidknaaGreatDoorProg
import Derived.Deep.QuietTactic
import Derived.BigQuiet
import Derived.Test.YtmdhlkkekidknaaGreatDoorV10
import Derived.Test.YtmdhlkkekidknaaGreatDoorV3
import Derived.Test.YtmdhlkkekidknaaGreatDoorV1
import Derived.Test.YtmdhlkkekidknaaGreatDoorV2
import Derived.Test.YtmdhlkkekidknaaGreatDoorV6

namespace Go.Proofs
open Go.Shelf
def Tryz.laysGsp_ren : Go.Shelf.Ren := ⟨fun | 221 => 117 | 268 => 166 | 138 => 21 | 143 => 54 | 195 => 52 | 197 => 186 | 218 => 53 | 219 => 105 | 260 => 209 | 217 => 136 | 225 => 137 | 224 => 138 | 267 => 139 | 266 => 188 | 314 => 189 | n => n, fun | 9 => 9 | 3 => 3 | 31 => 96 | 4 => 4 | 0 => 0 | 105 => 204 | 21 => 21 | 5 => 5 | 46 => 144 | 119 => 237 | 139 => 240 | 138 => 239 | 146 => 207 | 51 => 176 | n => n, fun | 1 => 0 | 3 => 1 | 4 => 2 | n => n⟩
theorem Tryz.laysGsp : Go.Proofs.Lays.n221 Tryz.prog Tryz.laysGsp_ren := {
  mixed := by kernel_rfl
  f138 := Tryz.func21.trans (congrArg some (by kernel_rfl))
  f143 := Tryz.func54.trans (congrArg some (by kernel_rfl))
  f195 := Tryz.func52.trans (congrArg some (by kernel_rfl))
  f197 := Tryz.func186.trans (congrArg some (by kernel_rfl))
  f217 := Tryz.func136.trans (congrArg some (by kernel_rfl))
  f218 := Tryz.func53.trans (congrArg some (by kernel_rfl))
  f219 := Tryz.func105.trans (congrArg some (by kernel_rfl))
  f221 := Tryz.func117.trans (congrArg some (by kernel_rfl))
  f224 := Tryz.func138.trans (congrArg some (by kernel_rfl))
  f225 := Tryz.func137.trans (congrArg some (by kernel_rfl))
  f260 := Tryz.func209.trans (congrArg some (by kernel_rfl))
  f266 := Tryz.func188.trans (congrArg some (by kernel_rfl))
  f267 := Tryz.func139.trans (congrArg some (by kernel_rfl))
  f268 := Tryz.func166.trans (congrArg some (by kernel_rfl))
  f314 := Tryz.func189.trans (congrArg some (by kernel_rfl))
  t0 := Tryz.underlying0
  a0 := Tryz.isAgg0
  z0 := Tryz.sizeOf0
  v0 := Tryz.zeroValue0
  t3 := Tryz.underlying3
  a3 := Tryz.isAgg3
  z3 := Tryz.sizeOf3
  v3 := Tryz.zeroValue3
  t4 := Tryz.underlying4
  a4 := Tryz.isAgg4
  z4 := Tryz.sizeOf4
  v4 := Tryz.zeroValue4
  t5 := Tryz.underlying5
  a5 := Tryz.isAgg5
  z5 := Tryz.sizeOf5
  v5 := Tryz.zeroValue5
  t9 := Tryz.underlying9
  a9 := Tryz.isAgg9
  z9 := Tryz.sizeOf9
  v9 := Tryz.zeroValue9
  t21 := Tryz.underlying21
  a21 := Tryz.isAgg21
  z21 := Tryz.sizeOf21
  v21 := Tryz.zeroValue21
  t31 := Tryz.underlying96
  a31 := Tryz.isAgg96
  z31 := Tryz.sizeOf96
  v31 := Tryz.zeroValue96
  t46 := Tryz.underlying144
  a46 := Tryz.isAgg144
  z46 := Tryz.sizeOf144
  v46 := Tryz.zeroValue144
  t51 := Tryz.underlying176
  a51 := Tryz.isAgg176
  z51 := Tryz.sizeOf176
  v51 := Tryz.zeroValue176
  t105 := Tryz.underlying204
  a105 := Tryz.isAgg204
  z105 := Tryz.sizeOf204
  v105 := Tryz.zeroValue204
  t119 := Tryz.underlying237
  a119 := Tryz.isAgg237
  z119 := Tryz.sizeOf237
  t138 := Tryz.underlying239
  a138 := Tryz.isAgg239
  z138 := Tryz.sizeOf239
  v138 := Tryz.zeroValue239
  t139 := Tryz.underlying240
  a139 := Tryz.isAgg240
  z139 := Tryz.sizeOf240
  v139 := Tryz.zeroValue240
  t146 := Tryz.underlying207
  a146 := Tryz.isAgg207
  z146 := Tryz.sizeOf207
  v146 := Tryz.zeroValue207
  g1 := by kernel_rfl
  g3 := by kernel_rfl
  g4 := by kernel_rfl }
def Tryz.idxEnt_ren : Go.Shelf.Ren := ⟨fun | 6 => 70 | n => n, fun | 22 => 79 | 23 => 102 | 25 => 103 | 3 => 3 | 0 => 0 | 4 => 4 | n => n, fun | n => n⟩
theorem Tryz.idxEnt : Go.Proofs.SlLaysH0.n6 Tryz.prog Tryz.idxEnt_ren := {
  mixed := by kernel_rfl
  f6 := ⟨Tryz.f70.name, by decide, Tryz.func70.trans (congrArg some (by kernel_rfl))⟩
  t0 := Tryz.underlying0
  a0 := Tryz.isAgg0
  z0 := Tryz.sizeOf0
  v0 := Tryz.zeroValue0
  t3 := Tryz.underlying3
  a3 := Tryz.isAgg3
  z3 := Tryz.sizeOf3
  v3 := Tryz.zeroValue3
  t4 := Tryz.underlying4
  a4 := Tryz.isAgg4
  z4 := Tryz.sizeOf4
  v4 := Tryz.zeroValue4
  t22 := Tryz.underlying79
  a22 := Tryz.isAgg79
  z22 := Tryz.sizeOf79
  v22 := Tryz.zeroValue79
  t25 := Tryz.underlying103
  a25 := Tryz.isAgg103
  z25 := Tryz.sizeOf103
  v25 := Tryz.zeroValue103 }
def Tryz.keysF_ren : Go.Shelf.Ren := ⟨fun | 7 => 89 | 10 => 128 | n => n, fun | 23 => 124 | 26 => 9 | 3 => 68 | 28 => 115 | 0 => 0 | 27 => 114 | 33 => 70 | 4 => 4 | n => n, fun | n => n⟩
theorem Tryz.keysF : Go.Proofs.SlLaysZ.n7 Tryz.prog Tryz.keysF_ren := {
  mixed := by kernel_rfl
  f7 := ⟨Tryz.f89.name, by decide, Tryz.func89.trans (congrArg some (by kernel_rfl))⟩
  f10 := ⟨Tryz.f128.name, by decide, Tryz.func128.trans (congrArg some (by kernel_rfl))⟩
  t0 := Tryz.underlying0
  a0 := Tryz.isAgg0
  z0 := Tryz.sizeOf0
  v0 := Tryz.zeroValue0
  t4 := Tryz.underlying4
  a4 := Tryz.isAgg4
  z4 := Tryz.sizeOf4
  v4 := Tryz.zeroValue4
  t23 := Tryz.underlying124
  a23 := Tryz.isAgg124
  z23 := Tryz.sizeOf124
  v23 := Tryz.zeroValue124
  t26 := Tryz.underlying9
  a26 := Tryz.isAgg9
  z26 := Tryz.sizeOf9
  v26 := Tryz.zeroValue9
  t27 := Tryz.underlying114
  a27 := Tryz.isAgg114
  z27 := Tryz.sizeOf114
  v27 := Tryz.zeroValue114
  t28 := Tryz.underlying115
  a28 := Tryz.isAgg115
  z28 := Tryz.sizeOf115
  v28 := Tryz.zeroValue115
  t33 := Tryz.underlying70
  a33 := Tryz.isAgg70
  z33 := Tryz.sizeOf70
  v33 := Tryz.zeroValue70 }
def Tryz.keysB_ren : Go.Shelf.Ren := ⟨fun | 7 => 91 | 10 => 129 | n => n, fun | 23 => 123 | 26 => 9 | 3 => 24 | 28 => 115 | 0 => 0 | 27 => 114 | 33 => 70 | 4 => 4 | n => n, fun | n => n⟩
theorem Tryz.keysB : Go.Proofs.SlLaysZ.n7 Tryz.prog Tryz.keysB_ren := {
  mixed := by kernel_rfl
  f7 := ⟨Tryz.f91.name, by decide, Tryz.func91.trans (congrArg some (by kernel_rfl))⟩
  f10 := ⟨Tryz.f129.name, by decide, Tryz.func129.trans (congrArg some (by kernel_rfl))⟩
  t0 := Tryz.underlying0
  a0 := Tryz.isAgg0
  z0 := Tryz.sizeOf0
  v0 := Tryz.zeroValue0
  t4 := Tryz.underlying4
  a4 := Tryz.isAgg4
  z4 := Tryz.sizeOf4
  v4 := Tryz.zeroValue4
  t23 := Tryz.underlying123
  a23 := Tryz.isAgg123
  z23 := Tryz.sizeOf123
  v23 := Tryz.zeroValue123
  t26 := Tryz.underlying9
  a26 := Tryz.isAgg9
  z26 := Tryz.sizeOf9
  v26 := Tryz.zeroValue9
  t27 := Tryz.underlying114
  a27 := Tryz.isAgg114
  z27 := Tryz.sizeOf114
  v27 := Tryz.zeroValue114
  t28 := Tryz.underlying115
  a28 := Tryz.isAgg115
  z28 := Tryz.sizeOf115
  v28 := Tryz.zeroValue115
  t33 := Tryz.underlying70
  a33 := Tryz.isAgg70
  z33 := Tryz.sizeOf70
  v33 := Tryz.zeroValue70 }
def Tryz.keysC_ren : Go.Shelf.Ren := ⟨fun | 7 => 78 | 10 => 119 | n => n, fun | 23 => 110 | 26 => 9 | 3 => 112 | 28 => 115 | 0 => 0 | 27 => 114 | 33 => 70 | 4 => 4 | n => n, fun | n => n⟩
theorem Tryz.keysC : Go.Proofs.SlLaysZ.n7 Tryz.prog Tryz.keysC_ren := {
  mixed := by kernel_rfl
  f7 := ⟨Tryz.f78.name, by decide, Tryz.func78.trans (congrArg some (by kernel_rfl))⟩
  f10 := ⟨Tryz.f119.name, by decide, Tryz.func119.trans (congrArg some (by kernel_rfl))⟩
  t0 := Tryz.underlying0
  a0 := Tryz.isAgg0
  z0 := Tryz.sizeOf0
  v0 := Tryz.zeroValue0
  t4 := Tryz.underlying4
  a4 := Tryz.isAgg4
  z4 := Tryz.sizeOf4
  v4 := Tryz.zeroValue4
  t23 := Tryz.underlying110
  a23 := Tryz.isAgg110
  z23 := Tryz.sizeOf110
  v23 := Tryz.zeroValue110
  t26 := Tryz.underlying9
  a26 := Tryz.isAgg9
  z26 := Tryz.sizeOf9
  v26 := Tryz.zeroValue9
  t27 := Tryz.underlying114
  a27 := Tryz.isAgg114
  z27 := Tryz.sizeOf114
  v27 := Tryz.zeroValue114
  t28 := Tryz.underlying115
  a28 := Tryz.isAgg115
  z28 := Tryz.sizeOf115
  v28 := Tryz.zeroValue115
  t33 := Tryz.underlying70
  a33 := Tryz.isAgg70
  z33 := Tryz.sizeOf70
  v33 := Tryz.zeroValue70 }
end Go.Proofs

namespace Go.Proofs.YtmdhlkkekidknaaGreatDoor
open Go.RowKit Go.Maps
attribute [local go_sem] Oper.semAt_some

theorem own_row {W : World} {base size n : Nat} {e : TypeId} {v : Value} {xs : List Value} (h : W.ownsRow base e size v n xs) {k : Nat} (hk : v.ownBlock = some k) : base ≤ k ∧ ∃ cur, W.heap[k]? = some (.cells cur e (0, 0)) := by
  rcases h.2 with ⟨rfl, _⟩ | ⟨g, cap, cur, rfl, h1, h2, _⟩
  · cases hk
  · cases hk; exact ⟨h1, cur, h2⟩
theorem own_keep {W W' : World} {base size n : Nat} {e : TypeId} {v : Value} {xs : List Value} (h : W.ownsRow base e size v n xs) (hk : ∀ k, v.ownBlock = some k → W'.heap[k]? = W.heap[k]?) : W'.ownsRow base e size v n xs := by
  refine ⟨h.1, ?_⟩
  rcases h.2 with h0 | ⟨g, cap, cur, rfl, h1, h2, h3⟩
  · exact .inl h0
  · exact .inr ⟨g, cap, cur, rfl, h1, (hk g rfl).trans h2, h3⟩

end Go.Proofs.YtmdhlkkekidknaaGreatDoor

namespace Go.Proofs.YtmdhlkkekidknaaGreatDoor
open Go.RowKit Go.Maps Go.Sort Go.Shelf
attribute [local go_sem] Oper.semAt_some

theorem keys_nodup {w : World} {P : Program} {k : TypeId} {b N : Nat} {D : DataW Value} (hown : w.ownsMap P k rawR b N D) (hk : P.underlying k = some .string) : (strKeys D).Nodup := by
  obtain ⟨es, hD, hpw, _⟩ := hown.entries (string_keyed hk)
  obtain ⟨es', hD', hko⟩ := hown.keysOf
  obtain rfl : es = es' := by rw [hD] at hD'; simpa using hD'
  subst hD
  show (es.map fun p => strOf p.1).Nodup
  refine List.pairwise_map.2 (hpw.imp_of_mem fun {p q} hp' hq' hne e => hne ?_)
  obtain ⟨v, hv⟩ := hko p hp'
  obtain ⟨u, hu⟩ := hko q hq'
  obtain ⟨a, _, ha, _⟩ := Maps.keyOf_str hk hv
  obtain ⟨b, _, hb, _⟩ := Maps.keyOf_str hk hu
  rw [ha, hb] at e ⊢
  exact congrArg _ e
structure KeysR (g : ByteArray → Option Value) (N : Nat) (ks : List ByteArray) : Prop where
  nod : ks.Nodup
  mem : ∀ x, x ∈ ks ↔ (g x).isSome = true
  few : ks.length ≤ N
theorem Rm.keys {w : World} {P : Program} {k : TypeId} {b N : Nat} {g : ByteArray → Option Value} (h : Rm w P k b N g) (hk : P.underlying k = some .string) :
    ∃ D : DataW Value, w.ownsMap P k rawR b N D ∧ Maps.size D ≤ N ∧ ∀ ss : List (List UInt8), ss.Perm (strKeys D) ∧ (∀ x, x ∈ ss ↔ Maps.has D (.string x) = true) → KeysR g N (ss.map ub) := by
  obtain ⟨D, h1, h2⟩ := h
  have hsz : Maps.size D ≤ N := h1.size_le
  refine ⟨D, h1, hsz, fun ss hs => ?_⟩
  have hnd := (hs.1.nodup_iff).2 (keys_nodup h1 hk)
  refine ⟨?_, fun x => ?_, ?_⟩
  · unfold List.Nodup
    rw [List.pairwise_map]
    exact hnd.imp (fun hne e => hne (by have := congrArg bl e; simpa [bl, ub] using this))
  · rw [← (h2 x).1, ← hs.2, List.mem_map]
    constructor
    · rintro ⟨l, hl, rfl⟩; simpa [ub] using hl
    · intro h; exact ⟨bl x, h, by rw [ub_bl]⟩
  · rw [List.length_map, hs.1.length_eq]
    obtain ⟨es, rfl, _⟩ := h1.keysOf
    have : (strKeys (DataW.map es)).length = Maps.size (DataW.map es) := by simp [strKeys, Maps.size]
    omega
theorem ownsRow_other_box {w : World} {base size n b : Nat} {e t : TypeId} {v u : Value} {xs : List Value} (h : w.ownsRow base e size v n xs) (hb : w.heap[b]? = some (.cells #[u] t (0, 0))) (x : Value) (hne : e ≠ t := by decide) : (w.setCell ⟨b, 0, none⟩ x).ownsRow base e size v n xs := by
  refine h.kept (row := some b) ⟨rfl, rfl, rfl, by simp, fun k _ hk => Below.heap_setCell _ _ _ k (fun e => hk (by rw [e]))⟩ ?_
  cases hv : v.ownBlock with
  | none => exact .inl rfl
  | some k =>
    refine .inr fun he => ?_
    obtain ⟨_, cur, hc⟩ := own_row h hv
    cases he
    rw [hb] at hc
    cases hc
    exact hne rfl
theorem enc_ub (x : List UInt8) : encStr x = .string (ub x) := rfl
set_option maxRecDepth 100000 in
set_option maxHeartbeats 4000000 in
theorem appSeq_any (gf : Nat) (lb : Array Value) (eg : ∀ args w, (callFunc gf args).run Tryz.prog w = .ok (.enter gf args) w) (S Sp : List (List UInt8) → Prop) (N : Nat) (A : Option Addr) (n c : Nat) (l0 : List ByteArray) (w0 w : World)
    (hrow : w.ownsRow w0.heap.size 9 1 (.slice A n c) n (strs l0)) (hbw : Below w0.heap.size w0 w) (hn : n + N ≤ 1000000) (hseq : SeqStops Fence.wide 5 Tryz.prog gf lb encStr S Sp N w) :
    Calls Tryz.prog 90 #[.slice A n c, .func (.func gf) #[] lb] w fun e w' =>
      ∃ A' c' ss, e = .returned (.slice A' (n + ss.length) c') ∧ S ss ∧ w'.ownsRow w0.heap.size 9 1 (.slice A' (n + ss.length) c') (n + ss.length) (strs (l0 ++ ss.map ub)) ∧ Below w0.heap.size w0 w' := by
  refine (callsIn_wide (n := 6)).1 ?_
  have hf1 : Fence.wide.fn gf := trivial
  refine callsIn_of_wp_marks Tryz.func90 rfl trivial ?_ rfl
  simp only [Tryz.ntmps90, List.size_toArray, List.length_cons, List.length_nil, Nat.reduceAdd, Nat.reduceSub, Array.replicate_succ, Array.replicate_zero, List.push_toArray, List.append_toArray, List.nil_append, List.cons_append]
  have HROW := Lib.hid hrow; have HBW := Lib.hid hbw; have HSEQ := Lib.hid hseq
  have zbw := hbw.size
  clear hrow hbw hseq
  gi_wp2
  obtain ⟨W2, hW2⟩ : ∃ W2, w.alloc (.cells #[.slice A n c] 96) = W2 := ⟨_, rfl⟩
  have hb2 : Below w0.heap.size w0 W2 := by rw [← hW2]; exact HBW.out.alloc zbw _
  have hb2' : Below w.heap.size w W2 := by rw [← hW2]; exact (Below.refl _ w).alloc (Nat.le_refl _) _
  have g1 : W2.heap[w.heap.size]? = some (.cells #[.slice A n c] 96 (0, 0)) := by rw [← hW2]; exact World.alloc_heap_new w _
  have hy2 : W2.heap.size = w.heap.size + 1 := by rw [← hW2]; simp
  have hr2 : W2.ownsRow w0.heap.size 9 1 (.slice A n c) n (strs l0) := by
    rw [← hW2]
    exact HROW.out.kept (World.grownBy_alloc w _ none) (by cases hv : (Value.slice A n c).ownBlock with | none => exact .inl rfl | some k => exact .inr (by simp))
  rw [hW2]
  clear hW2
  refine wpIn_rangeFunc_ownF (α := List UInt8) (F := Fence.wide) (n := 6) rfl (by omega) (gf := gf) (lb := lb) rfl trivial eg (encs := fun x => #[encStr x]) (Kp := KeepsWalks) (S := S) (Sp := Sp) (N := N) (w0 := w) HSEQ.out (fun h k => walksK_t h k) (fun W l o o' h1 h2 h3 h4 => walksK_b (w := W2) W l o o' h1 h2 h3 h4) hb2' (fun _ => rfl)
    (fun pre W => ∃ Aq cq, W.heap[w.heap.size]? = some (.cells #[.slice Aq (n + pre.length) cq] 96 (0, 0)) ∧ W.ownsRow w0.heap.size 9 1 (.slice Aq (n + pre.length) cq) (n + pre.length) (strs (l0 ++ pre.map ub)) ∧ Below w0.heap.size w0 W)
    (fun _ _ _ => False)
    ?hI ?hIx ⟨A, c, g1, by simpa using hr2, hb2⟩
    (fun x => { tmps := #[.slice A n c, .func (.func gf) #[] lb, .pointer (some ⟨w.heap.size, 0, none⟩), undef, .slice none 0 0, encStr x, .func (.func gf) #[] lb, encStr x, undef, undef, undef, undef, undef], defers := [] }) ?assign ?body ?done ?stop
  case hI =>
    rintro pre A1 C row ⟨Aq, cq, h0, h1, h2⟩ hg hr
    refine ⟨Aq, cq, one_grown h0 hg (fun e => ?_), h1.kept hg ?_, h2.grown hg h2.size (fun k e => ?_)⟩
    · have := (hr _ e.symm).1; omega
    · cases hv : (Value.slice Aq (n + pre.length) cq).ownBlock with
      | none => exact .inl rfl
      | some k =>
        refine .inr fun e => ?_
        obtain ⟨_, cur, hcur⟩ := own_row h1 hv
        obtain ⟨_, o, ho, hc⟩ := hr _ e.symm
        rw [hcur] at ho; cases ho; cases hc
    · have := (hr _ e).1; omega
  case hIx => rintro c pre A1 C row hf _ _; exact hf
  case stop => rintro D c pre W hD hS hf hK; exact hf.elim
  case assign =>
    intro l x W K hK
    have HKK := Lib.hid hK
    clear hK
    simp only [enc_ub]
    gi_wp2
    exact HKK.out
  case body =>
    rintro l pre y W ⟨Aq, cq, h0, h1, h2⟩ hlen
    have c0 := cell_of_one h0
    have f0 := free_of_one h0
    have H0 := Lib.hid h0; have H1 := Lib.hid h1; have H2 := Lib.hid h2
    have hzW : w.heap.size < W.heap.size := (Array.getElem?_eq_some_iff.1 h0).1
    have zW0 := h2.size
    obtain ⟨i0, hi, hz0, hz1', hz2'⟩ := info_parts infoStr
    have Hi := Lib.hid hi; have Hz0 := Lib.hid hz0; have Hz1 := Lib.hid hz1'; have Hz2 := Lib.hid hz2'
    clear h0 h1 h2 g1 hb2 hb2' hr2 hi hz0 hz1' hz2'
    simp only [enc_ub]
    gi_wp2_with (gi_at_builtin; refine halt_ ?_)
    refine unhalt ?_
    refine wpListIn_append_sl (base := w0.heap.size) (size := 1) rfl (.tmp 8) (.tmp 10) 96 rfl 9 i0 _ 16 Tryz.underlying96 Hi.out Hz0.out Hz1.out Hz2.out rfl (by decide) (.slice Aq (n + pre.length) cq) (n + pre.length) (strs (l0 ++ pre.map ub)) rfl ?own (W.heap.size + 1) _ 1 _ [.string (ub y)] rfl ?nw (by simp [Value.oneCell']) ?l1 ?l2 ?l3 ?_
    case own => exact H1.out.kept (World.grownBy_alloc W _ none) (by cases hv : (Value.slice Aq (n + pre.length) cq).ownBlock with | none => exact .inl rfl | some k => exact .inr (by simp))
    case nw => exact ⟨rfl, fun _ => ⟨W.heap.size, 0, rfl, Nat.lt_succ_self _, fun j u hu => by have := new_cell W 9 (ub y) j u hu; rwa [Addr.add_lit] at this⟩⟩
    case l1 => unfold maxLen; omega
    case l2 => omega
    case l3 => simp; omega
    intro A4 c4 w4 ho4 hg4 hc41 hc42
    have HO4 : Hid (w4.ownsRow w0.heap.size 9 1 (.slice A4 (n + (pre.length + 1)) c4) (n + (pre.length + 1)) (strs (l0 ++ (pre ++ [y]).map ub))) := by
      show World.ownsRow _ _ _ _ _ _ _
      have e : strs (l0 ++ (pre ++ [y]).map ub) = strs (l0 ++ pre.map ub) ++ [.string (ub y)] := by simp [strs]
      rw [e]; exact ho4
    have HGE : Hid (∀ k, (Value.slice Aq (n + pre.length) cq).ownBlock = some k → w0.heap.size ≤ k ∧ ∃ cur, W.heap[k]? = some (.cells cur 9 (0, 0))) := fun k hk => own_row H1.out hk
    have HNE : Hid (∀ k, (Value.slice Aq (n + pre.length) cq).ownBlock = some k → k ≠ w.heap.size) := fun k hk e => by
      obtain ⟨_, cur, hc⟩ := HGE.out k hk
      rw [e, H0.out] at hc
      cases hc
    have HX4 : Hid (w4.heap[w.heap.size]? = some (.cells #[.slice Aq (n + pre.length) cq] 96 (0, 0))) := one_grown ((Below.heap_alloc W _ _ hzW).trans H0.out) hg4 (fun e => HNE.out _ e.symm rfl)
    have c4' := cell_of_one HX4.out
    have f4' := free_of_one HX4.out
    have HB4 : Hid (Below w0.heap.size w0 w4) := (H2.out.alloc zW0 _).grown hg4 (by simp; omega) (fun k hk => (HGE.out k hk).1)
    have HKO : Hid (KeepsOthers W (w4.setCell ⟨w.heap.size, 0, none⟩ (.slice A4 (n + (pre.length + 1)) c4))) := ((KeepsOthers.alloc W _).trans (KeepsOthers.of_grownBy hg4 (fun j o hj ho => by
      obtain ⟨_, cur, hc⟩ := HGE.out j hj
      rw [(Below.heap_alloc W _ j (Array.getElem?_eq_some_iff.1 hc).1).trans hc] at ho
      cases ho; rfl))).trans (KeepsOthers.setCell _ _ _)
    have HO5 : Hid ((w4.setCell ⟨w.heap.size, 0, none⟩ (.slice A4 (n + (pre.length + 1)) c4)).ownsRow w0.heap.size 9 1 (.slice A4 (n + (pre.length + 1)) c4) (n + (pre.length + 1)) (strs (l0 ++ (pre ++ [y]).map ub))) := ownsRow_other_box HO4.out HX4.out _
    have hea : n + pre.length + 1 = n + (pre.length + 1) := by omega
    clear ho4 hg4 c0 f0
    gi_wp2
    refine ⟨HKO.out, HKO.out.walks, A4, c4, ?_, ?_, ?_⟩
    · rw [List.length_append]; exact one_setCell HX4.out
    · rw [List.length_append]; exact HO5.out
    · exact HB4.out.setCell (p := ⟨w.heap.size, 0, none⟩) zbw _
  case done =>
    rintro D xs W hD hS ⟨Aq, cq, h0, h1, h2⟩ hK
    have c0 := cell_of_one h0
    have H1 := Lib.hid h1; have HK := Lib.hid hK; have H2 := Lib.hid h2; have HS := Lib.hid hS
    clear h0 h1 h2 hK hS g1 hb2 hb2' hr2
    gi_wp2
    refine ⟨by simp, .inl ⟨_, _, rfl, run_takeDeferred HK.out, ?_⟩⟩
    refine ⟨_, results_tmp rfl _ _ _, Aq, cq, xs, rfl, HS.out, ?_, ?_⟩
    · exact H1.out.kept (grownBy_putObj' _ _ _) (by
        cases hv : (Value.slice Aq (n + xs.length) cq).ownBlock with
        | none => exact .inl rfl
        | some k =>
          refine .inr fun e => ?_
          cases e
          obtain ⟨_, cur, hc⟩ := own_row H1.out hv
          rw [HK.out] at hc; cases hc)
    · exact H2.out.grown (grownBy_putObj' _ _ _) H2.out.size (fun k e => by cases e; omega)

theorem keysF_any (b : Nat) (w : World) : Calls Tryz.prog 89 #[.map (some b)] w fun e w' => e = .returned (.func (.func 128) #[] #[.pointer (some ⟨w.heap.size, 0, none⟩)]) ∧ w' = w.alloc (.cells #[.map (some b)] 124) := by
  go_enter Tryz.func89, Tryz.ntmps89
  go_wp2_with fail
  go_ret
  exact ⟨rfl, rfl⟩
theorem keysF_seq {Bm b N : Nat} {g : ByteArray → Option Value} {w : World} (hM : Rm w Tryz.prog 9 b N g) (hc : w.cell? ⟨Bm, 0, none⟩ = some (.map (some b))) (hB : Bm < w.heap.size) :
    ∃ S Sp, SeqStops Fence.wide 5 Tryz.prog 128 #[.pointer (some ⟨Bm, 0, none⟩)] encStr S Sp N w ∧ ∀ ss, S ss → KeysR g N (ss.map ub) := by
  obtain ⟨D, h1, h2, h3⟩ := hM.keys Tryz.underlying9
  refine ⟨_, _, fun l J Jx W hW hJ hJx hY h0 => AnyZ.keys_stops (ρ := Tryz.keysF_ren) { Tryz.keysF with } Fence.wide 5 trivial rfl (by omega) Bm b N D w hB hc h1 l J Jx W hW hJ hJx (fun pre x W1 hj hl => hY pre x W1 hj (Nat.lt_of_lt_of_le hl h2)) h0, h3⟩
theorem enterF : ∀ args w, (callFunc 128 args).run Tryz.prog w = .ok (.enter 128 args) w := enters_of Tryz.func128 (by kernel_rfl) rfl
def ApsFE (g : ByteArray → Option Value) (N n : Nat) (l0 : List ByteArray) (w0 : World) (e : Ending) (w' : World) : Prop :=
  ∃ A c ks, e = .returned (.slice A (n + ks.length) c) ∧ KeysR g N ks ∧ w'.ownsRow w0.heap.size 9 1 (.slice A (n + ks.length) c) (n + ks.length) (strs (l0 ++ ks)) ∧ Below w0.heap.size w0 w'
theorem apsF_any (Bm b N : Nat) (g : ByteArray → Option Value) (A : Option Addr) (n c : Nat) (l0 : List ByteArray) (w0 w : World) (hM : Rm w Tryz.prog 9 b N g) (hc : w.cell? ⟨Bm, 0, none⟩ = some (.map (some b))) (hB : Bm < w.heap.size)
    (hrow : w.ownsRow w0.heap.size 9 1 (.slice A n c) n (strs l0)) (hbw : Below w0.heap.size w0 w) (hn : n + N ≤ 1000000) :
    Calls Tryz.prog 90 #[.slice A n c, .func (.func 128) #[] #[.pointer (some ⟨Bm, 0, none⟩)]] w (ApsFE g N n l0 w0) := by
  obtain ⟨S, Sp, h1, h2⟩ := keysF_seq hM hc hB
  refine (appSeq_any _ _ enterF S Sp N A n c l0 w0 w hrow hbw hn h1).mono ?_
  rintro e w' ⟨A', c', ss, rfl, hS, hr, hb⟩
  exact ⟨A', c', ss.map ub, by rw [List.length_map], h2 ss hS, by rw [List.length_map]; exact hr, hb⟩

theorem keysB_any (b : Nat) (w : World) : Calls Tryz.prog 91 #[.map (some b)] w fun e w' => e = .returned (.func (.func 129) #[] #[.pointer (some ⟨w.heap.size, 0, none⟩)]) ∧ w' = w.alloc (.cells #[.map (some b)] 123) := by
  go_enter Tryz.func91, Tryz.ntmps91
  go_wp2_with fail
  go_ret
  exact ⟨rfl, rfl⟩
theorem keysB_seq {Bm b N : Nat} {g : ByteArray → Option Value} {w : World} (hM : Rm w Tryz.prog 9 b N g) (hc : w.cell? ⟨Bm, 0, none⟩ = some (.map (some b))) (hB : Bm < w.heap.size) :
    ∃ S Sp, SeqStops Fence.wide 5 Tryz.prog 129 #[.pointer (some ⟨Bm, 0, none⟩)] encStr S Sp N w ∧ ∀ ss, S ss → KeysR g N (ss.map ub) := by
  obtain ⟨D, h1, h2, h3⟩ := hM.keys Tryz.underlying9
  refine ⟨_, _, fun l J Jx W hW hJ hJx hY h0 => AnyZ.keys_stops (ρ := Tryz.keysB_ren) { Tryz.keysB with } Fence.wide 5 trivial rfl (by omega) Bm b N D w hB hc h1 l J Jx W hW hJ hJx (fun pre x W1 hj hl => hY pre x W1 hj (Nat.lt_of_lt_of_le hl h2)) h0, h3⟩
theorem enterB : ∀ args w, (callFunc 129 args).run Tryz.prog w = .ok (.enter 129 args) w := enters_of Tryz.func129 (by kernel_rfl) rfl
def ApsBE (g : ByteArray → Option Value) (N n : Nat) (l0 : List ByteArray) (w0 : World) (e : Ending) (w' : World) : Prop :=
  ∃ A c ks, e = .returned (.slice A (n + ks.length) c) ∧ KeysR g N ks ∧ w'.ownsRow w0.heap.size 9 1 (.slice A (n + ks.length) c) (n + ks.length) (strs (l0 ++ ks)) ∧ Below w0.heap.size w0 w'
theorem apsB_any (Bm b N : Nat) (g : ByteArray → Option Value) (A : Option Addr) (n c : Nat) (l0 : List ByteArray) (w0 w : World) (hM : Rm w Tryz.prog 9 b N g) (hc : w.cell? ⟨Bm, 0, none⟩ = some (.map (some b))) (hB : Bm < w.heap.size)
    (hrow : w.ownsRow w0.heap.size 9 1 (.slice A n c) n (strs l0)) (hbw : Below w0.heap.size w0 w) (hn : n + N ≤ 1000000) :
    Calls Tryz.prog 90 #[.slice A n c, .func (.func 129) #[] #[.pointer (some ⟨Bm, 0, none⟩)]] w (ApsBE g N n l0 w0) := by
  obtain ⟨S, Sp, h1, h2⟩ := keysB_seq hM hc hB
  refine (appSeq_any _ _ enterB S Sp N A n c l0 w0 w hrow hbw hn h1).mono ?_
  rintro e w' ⟨A', c', ss, rfl, hS, hr, hb⟩
  exact ⟨A', c', ss.map ub, by rw [List.length_map], h2 ss hS, by rw [List.length_map]; exact hr, hb⟩

def CollFE (g : ByteArray → Option Value) (N : Nat) (w : World) (e : Ending) (w' : World) : Prop :=
  ∃ A c ks, e = .returned (.slice A ks.length c) ∧ KeysR g N ks ∧ w'.ownsRow w.heap.size 9 1 (.slice A ks.length c) ks.length (strs ks) ∧ Below w.heap.size w w'
theorem collF_any (Bm b N : Nat) (g : ByteArray → Option Value) (w : World) (hM : Rm w Tryz.prog 9 b N g) (hc : w.cell? ⟨Bm, 0, none⟩ = some (.map (some b))) (hB : Bm < w.heap.size) (hn : N ≤ 1000000) :
    Calls Tryz.prog 88 #[.func (.func 128) #[] #[.pointer (some ⟨Bm, 0, none⟩)]] w (CollFE g N w) := by
  have HA := Lib.hid (apsF_any Bm b N g none 0 0 [] w w hM hc hB (World.ownsRow_nil _ _ _ _) (Below.refl _ _) (by omega))
  clear hM
  go_enter Tryz.func88, Tryz.ntmps88
  go_wp2_with (go_at_call 90; refine HA.out.mono ?_; rintro e w1 ⟨A, c, ks, rfl, h⟩; rw [Nat.zero_add, List.nil_append] at h; have HH := Lib.hid h; clear h)
  go_ret
  exact ⟨A, c, ks, rfl, HH.out⟩
end Go.Proofs.YtmdhlkkekidknaaGreatDoor

namespace Go.Proofs.YtmdhlkkekidknaaGreatDoor
open Go.RowKit

structure Fgr (w : World) (base : Nat) (e : TypeId) (f : ByteArray → Value) (L : ByteArray → List Fl) : Prop where
  own : ∀ i, w.ownsRow base e 2 (f i) (L i).length (flat flC (L i))
  apart : ∀ i j k, (f i).ownBlock = some k → (f j).ownBlock = some k → i = j
section
variable {w w' : World} {base : Nat} {e : TypeId} {f : ByteArray → Value} {L : ByteArray → List Fl}
theorem Fgr.start (w : World) (base : Nat) (e : TypeId) : Fgr w base e (fun _ => .slice none 0 0) (fun _ => []) :=
  ⟨fun _ => World.ownsRow_nil w base e 2, fun i j k h => by cases h⟩
theorem Fgr.kept {row : Option Nat} (h : Fgr w base e f L) (hg : w.grownBy w' row) (hr : ∀ i, (f i).ownBlock = none ∨ (f i).ownBlock ≠ row) : Fgr w' base e f L :=
  ⟨fun i => (h.own i).kept hg (hr i), h.apart⟩
theorem Fgr.below (h : Fgr w base e f L) (hb : Below w.heap.size w w') : Fgr w' base e f L :=
  h.kept (row := none) ⟨hb.os, hb.tape, hb.output, hb.size, fun k hk _ => hb.block k hk⟩ (fun i => by cases hv : (f i).ownBlock with | none => exact .inl rfl | some k => exact .inr (by simp))
theorem Fgr.other {b : Nat} (h : Fgr w base e f L) (hg : w.grownBy w' (some b)) (hb : b < base) : Fgr w' base e f L :=
  h.kept hg (fun i => by
    cases hv : (f i).ownBlock with
    | none => exact .inl rfl
    | some k => exact .inr (fun e => by have := ((h.own i).lt k hv).1; cases e; omega))
theorem Fgr.app (h : Fgr w base e f L) (i : ByteArray) {x : Fl} {g cap : Nat} (ho : w'.ownsRow base e 2 (.slice (some ⟨g, 0, none⟩) ((L i).length + 1) cap) ((L i).length + 1) (flat flC (L i) ++ flC x)) (hg : w.grownBy w' (f i).ownBlock)
    (hat : (f i).ownBlock = some g ∨ g = w.heap.size) : Fgr w' base e (fun j => if j = i then .slice (some ⟨g, 0, none⟩) ((L i).length + 1) cap else f j) (fun j => if j = i then L i ++ [x] else L j) := by
  have hlt : ∀ j k, (f j).ownBlock = some k → k < w.heap.size := fun j k hk => ((h.own j).lt k hk).2
  refine ⟨fun j => ?_, fun j l k hj hl => ?_⟩
  · by_cases hji : j = i
    · simp only [hji, if_true]
      rw [List.length_append]
      have : flat flC (L i ++ [x]) = flat flC (L i) ++ flC x := by rw [flat_append]; simp [flat]
      rw [this]
      exact ho
    · simp only [hji, if_false]
      refine (h.own j).kept hg ?_
      cases hv : (f j).ownBlock with
      | none => exact .inl rfl
      | some k => exact .inr (fun e' => hji (h.apart j i k hv e'.symm))
  · have new : ∀ j, j ≠ i → (f j).ownBlock = some g → False := fun j hj hb => by
      rcases hat with hat | hat
      · exact hj (h.apart j i g hb hat)
      · have := hlt j g hb; omega
    by_cases hji : j = i
    · by_cases hli : l = i
      · rw [hji, hli]
      · simp only [hji, if_true, hli, if_false] at hj hl
        have : g = k := by simpa [Value.ownBlock] using hj
        exact (new l hli (this ▸ hl)).elim
    · by_cases hli : l = i
      · simp only [hji, if_false, hli, if_true] at hj hl
        have : g = k := by simpa [Value.ownBlock] using hl
        exact (new j hji (this ▸ hj)).elim
      · simp only [hji, hli, if_false] at hj hl
        exact h.apart j l k hj hl
end
theorem inD_snoc (l : List Fl) (f : Fl) (s : ByteArray) : inD (l ++ [f]) s = inD l s ++ (if deN f.1 = true ∧ fsN f.1 = s then [(rsN f.1, f.2)] else []) := by
  unfold inD
  rw [List.filter_append, List.map_append]
  congr 1
  by_cases h : deN f.1 = true ∧ fsN f.1 = s
  · rw [if_pos h, List.filter_cons_of_pos (by simp [h.1, h.2])]; rfl
  · rw [if_neg h, List.filter_cons_of_neg (by simpa using h)]; rfl
theorem look9_snoc {l : List Fl} {f : Fl} (hn : f.1 ∉ l.map Prod.fst) (s : ByteArray) : lookF9 (l ++ [f]) s = if f.1 = s then some f.2 else lookF9 l s := by
  unfold lookF9
  rw [List.find?_append]
  by_cases h : f.1 = s
  · rw [if_pos h]
    have : l.find? (fun f => decide (f.1 = s)) = none := by
      rw [List.find?_eq_none]
      intro x hx he
      exact hn (by rw [h, ← (of_decide_eq_true he)]; exact List.mem_map_of_mem hx)
    rw [this]; simp [h]
  · rw [if_neg h]
    cases l.find? (fun f => decide (f.1 = s)) with
    | none => simp [h]
    | some x => simp
def nilS : Value := .slice none 0 0
def fileV (f : Fl) : Value := .agg #[.string f.1, .string f.2]
structure StM (w : World) (bb bf base N : Nat) (gb gf : ByteArray → Option Value) (l : List Fl) : Prop where
  b : Rm w Tryz.prog 9 bb N gb
  f : Rm w Tryz.prog 9 bf N gf
  rows : Fgr w base 68 (fun s => (gb s).getD nilS) (inD l)
  gbs : ∀ s, (gb s).isSome = true ↔ inD l s ≠ []
  gfs : ∀ s, gf s = if deN s = true then none else (lookF9 l s).map (fun d => fileV (s, d))
section
variable {w w' : World} {bb bf base N : Nat} {gb gf : ByteArray → Option Value} {l : List Fl}
theorem StM.below (h : StM w bb bf base N gb gf l) (hb : Below w.heap.size w w') : StM w' bb bf base N gb gf l :=
  ⟨h.b.below hb h.b.lt, h.f.below hb h.f.lt, h.rows.below hb, h.gbs, h.gfs⟩
theorem StM.alloc (h : StM w bb bf base N gb gf l) (o : Obj) : StM (w.alloc o) bb bf base N gb gf l := h.below ((Below.refl _ w).alloc (Nat.le_refl _) o)
theorem StM.start (w : World) (base : Nat) : StM ((w.alloc (.map #[] 0)).alloc (.map #[] 0)) w.heap.size (w.heap.size + 1) base 0 (fun _ => none) (fun _ => none) [] := by
  refine ⟨(Rm.made w Tryz.prog _).alloc _, ?_, Fgr.start _ _ _, fun s => by simp [inD], fun s => by simp [lookF9]⟩
  have := Rm.made (w.alloc (.map #[] 0)) Tryz.prog 9
  rw [World.size_alloc] at this
  exact this
theorem StM.file (h : StM w bb bf base N gb gf l) (hne : bb ≠ bf) (hbf : bf < base) {f : Fl} (hd : deN f.1 = false) (hn : f.1 ∉ l.map Prod.fst) (hr : Rm w' Tryz.prog 9 bf (N + 1) (upd gf f.1 (fileV f))) (hg : w.grownBy w' (some bf)) :
    StM w' bb bf base (N + 1) gb (upd gf f.1 (fileV f)) (l ++ [f]) := by
  have e : inD (l ++ [f]) = inD l := by
    funext s
    rw [inD_snoc, if_neg (by rw [hd]; simp), List.append_nil]
  refine ⟨(h.b.kept hg (fun e => hne (Option.some.inj e))).more (by omega), hr, by rw [e]; exact h.rows.other hg hbf, fun s => by rw [e]; exact h.gbs s, fun s => ?_⟩
  unfold upd
  rw [look9_snoc hn]
  by_cases hs : s = f.1
  · subst hs
    rw [if_pos rfl, hd, if_pos rfl]; rfl
  · rw [if_neg hs, if_neg (show ¬ f.1 = s from fun e => hs e.symm)]
    exact h.gfs s
theorem StM.dir {w1 : World} (h : StM w bb bf base N gb gf l) (hlt : bb < base ∧ bf < base ∧ bb ≠ bf) {f : Fl} (hd : deN f.1 = true) (hn : f.1 ∉ l.map Prod.fst) {g cap : Nat}
    (ho : w1.ownsRow base 68 2 (.slice (some ⟨g, 0, none⟩) ((inD l (fsN f.1)).length + 1) cap) ((inD l (fsN f.1)).length + 1) (flat flC (inD l (fsN f.1)) ++ flC (rsN f.1, f.2))) (hg : w.grownBy w1 ((gb (fsN f.1)).getD nilS).ownBlock)
    (hat : ((gb (fsN f.1)).getD nilS).ownBlock = some g ∨ g = w.heap.size)
    (hr : Rm w' Tryz.prog 9 bb (N + 1) (upd gb (fsN f.1) (.slice (some ⟨g, 0, none⟩) ((inD l (fsN f.1)).length + 1) cap))) (hg2 : w1.grownBy w' (some bb)) :
    StM w' bb bf base (N + 1) (upd gb (fsN f.1) (.slice (some ⟨g, 0, none⟩) ((inD l (fsN f.1)).length + 1) cap)) gf (l ++ [f]) := by
  have hne : ∀ b, b < base → some b ≠ ((gb (fsN f.1)).getD nilS).ownBlock := fun b hb e => by have := ((h.rows.own (fsN f.1)).lt b e.symm).1; omega
  have e1 : (fun s => (upd gb (fsN f.1) (.slice (some ⟨g, 0, none⟩) ((inD l (fsN f.1)).length + 1) cap) s).getD nilS) = fun s => if s = fsN f.1 then .slice (some ⟨g, 0, none⟩) ((inD l (fsN f.1)).length + 1) cap else (gb s).getD nilS := by
    funext s
    unfold upd
    by_cases hs : s = fsN f.1
    · rw [if_pos hs, if_pos hs]; rfl
    · rw [if_neg hs, if_neg hs]
  have e2 : inD (l ++ [f]) = fun s => if s = fsN f.1 then inD l (fsN f.1) ++ [(rsN f.1, f.2)] else inD l s := by
    funext s
    rw [inD_snoc]
    by_cases hs : s = fsN f.1
    · subst hs; rw [if_pos ⟨hd, rfl⟩, if_pos rfl]
    · rw [if_neg (fun e => hs e.2.symm), if_neg hs, List.append_nil]
  refine ⟨hr, ((h.f.kept hg (hne bf hlt.2.1)).kept hg2 (fun e => hlt.2.2 (by cases e; rfl))).more (by omega), ?_, fun s => ?_, fun s => ?_⟩
  · rw [e1, e2]
    exact (h.rows.app (fsN f.1) ho hg hat).other hg2 hlt.1
  · rw [e2]
    unfold upd
    by_cases hs : s = fsN f.1
    · simp [hs]
    · simp only [if_neg hs]; exact h.gbs s
  · rw [look9_snoc hn]
    by_cases hs : f.1 = s
    · subst hs; rw [h.gfs, if_pos hd, if_pos hd]
    · rw [if_neg hs]; exact h.gfs s
end
theorem names_eq {gb gf : ByteArray → Option Value} {l : List Fl} (hl : OkL l) (h1 : ∀ s, (gb s).isSome = true ↔ inD l s ≠ []) (h2 : ∀ s, gf s = if deN s = true then none else (lookF9 l s).map (fun d => fileV (s, d))) {N M : Nat} {ks qs : List ByteArray} (hk : KeysR gf N ks) (hq : KeysR gb M qs) :
    srtB (ks ++ qs) = nmsP l ∧ ∀ n ∈ nmsP l, deN n = false := by
  have hfl : ∀ x, x ∈ ks ↔ deN x = false ∧ ∃ d, (x, d) ∈ l := fun x => by
    rw [hk.mem, h2]
    cases hd : deN x with
    | true => simp
    | false =>
      simp only [Bool.false_eq_true, if_false, Option.isSome_map, true_and]
      rw [Option.isSome_iff_exists]
      constructor
      · rintro ⟨d, h⟩; exact ⟨d, (look9_some hl.nod).1 h⟩
      · rintro ⟨d, h⟩; exact ⟨d, (look9_some hl.nod).2 h⟩
  have hdr : ∀ x, x ∈ qs ↔ ∃ g ∈ l, deN g.1 = true ∧ fsN g.1 = x := fun x => by
    rw [hq.mem, h1]
    constructor
    · intro h
      obtain ⟨f, hf⟩ := List.exists_mem_of_ne_nil _ h
      obtain ⟨g, hg, a, b, _⟩ := mem_inD.1 hf
      exact ⟨g, hg, a, b⟩
    · rintro ⟨g, hg, a, b⟩ e
      have : (rsN g.1, g.2) ∈ inD l x := mem_inD.2 ⟨g, hg, a, b, rfl⟩
      rw [e] at this; cases this
  have hdis : ∀ x, x ∈ ks → x ∉ qs := fun x hx hx' => by
    obtain ⟨_, d, hd⟩ := (hfl x).1 hx
    obtain ⟨g, hg, a, b⟩ := (hdr x).1 hx'
    have h3 := hl.nob _ hd g hg
    rw [Bool.eq_false_iff] at h3
    refine h3 ((belB_iff _ _).2 ⟨bl (rsN g.1), ?_⟩)
    rw [cut_deep a, b]
  have hno : ∀ n ∈ nmsP l, deN n = false := fun n hn => by
    obtain ⟨f, _, rfl⟩ := nms_mem.1 hn
    exact (cut_no (fsN_nosl _)).2
  refine ⟨asc_ext (srtB_asc (List.nodup_append.2 ⟨hk.nod, hq.nod, fun a ha b hb e => hdis a ha (by rw [e]; exact hb)⟩)) (nms_asc l) (fun x => ?_), hno⟩
  rw [srtB_mem, List.mem_append, hfl, hdr, nms_mem]
  constructor
  · rintro (⟨h, d, hd⟩ | ⟨g, hg, _, h⟩)
    · exact ⟨_, hd, (cut_flat h).symm⟩
    · exact ⟨g, hg, h.symm⟩
  · rintro ⟨f, hf, rfl⟩
    cases hd : deN f.1 with
    | false => exact .inl ⟨(cut_no (fsN_nosl _)).2, f.2, by rw [cut_flat hd]; exact hf⟩
    | true => exact .inr ⟨f, hf, hd, rfl⟩
end Go.Proofs.YtmdhlkkekidknaaGreatDoor

namespace Go.Proofs.YtmdhlkkekidknaaGreatDoor
open Go.RowKit

theorem halt_app9 {P : Program} {ops : Array Oper} {rest : List Oper} {o : Oper} {a : Act} {w : World} {Q : Exit → Act → World → Prop} (s x : Operand) (t : TypeId) (_ : o.op = .call { callee := .builtin .append, args := #[s, x], argTypes := #[t, t] })
    (h : Hid (wpList P ops Q (o :: rest) a w)) : wpList P ops Q (o :: rest) a w := h
theorem apd_drewN {w : World} {base size n c : Nat} {e : TypeId} {A : Option Addr} {xs : List Value} (h : Apd w base e size A n c xs) (k : Nat) : Apd (w.drewN k) base e size A n c xs := h
def FlsE (l : List Fl) (w : World) (e : Ending) (w' : World) : Prop := ∃ A c, e = .returned (.slice A l.length c) ∧ Sl w' w'.heap.size 2 A l.length (flat flC l) ∧ l.length ≤ c ∧ c ≤ maxLen ∧ Below w.heap.size w w'
theorem wotF_snoc (l : List Fl) (f : Fl) (s : ByteArray) : wotF (l ++ [f]) s = if f.1 = s then wotF l s else wotF l s ++ [f] := by
  unfold wotF
  rw [List.filter_append]
  by_cases h : f.1 = s
  · rw [if_pos h]; simp [h]
  · rw [if_neg h]; simp [h]
theorem flC_one (l : List Fl) : ∀ u ∈ flat flC l, u.oneCell' = true := fun u hu => by
  unfold flat at hu
  obtain ⟨i, _, h⟩ := List.mem_flatMap.1 hu
  simp [flC] at h
  rcases h with rfl | rfl <;> rfl
set_option maxRecDepth 100000 in
set_option maxHeartbeats 4000000 in
theorem without9_any (A : Option Addr) (n c B : Nat) (l : List Fl) (s : ByteArray) (w : World) (h0 : Sl w B 2 A n (flat flC l)) (hB : B ≤ w.heap.size) (hn : n ≤ 1000000) :
    Calls Tryz.prog 67 #[.slice A n c, .string s] w (FlsE (wotF l s) w) := by
  have HL := Lib.hid (h0.len flC_len (by omega))
  have H0 := Lib.hid h0; clear h0
  obtain ⟨i0, hi, hz0, hz1, hz2⟩ := info_parts infoFlI
  have Hi := Lib.hid hi; have Hz0 := Lib.hid hz0; have Hz1 := Lib.hid hz1; have Hz2 := Lib.hid hz2
  clear hi hz0 hz1 hz2
  go_enter Tryz.func67, Tryz.ntmps67
  go_wp2_with fail
  go_loopw [5, 6] (fun q i wr => ∃ (k : Nat) (A' : Option Addr) (m c' : Nat), k ≤ n ∧ i = .int .i64 (k : Int) ∧ q = .slice A' m c' ∧ m = (wotF (l.take k) s).length ∧ m ≤ c' ∧ c' ≤ maxLen ∧ Hid (Apd wr w.heap.size 68 2 A' m c' (flat flC (wotF (l.take k) s))) ∧ Hid (Below w.heap.size w wr)) (fun _ i _ => n - (intOf i).toNat)
  case atStart => exact ⟨0, _, 0, 0, Nat.zero_le _, rfl, rfl, by rw [List.take_zero]; rfl, Nat.le_refl _, Nat.zero_le _, .inr ⟨rfl, rfl, by rw [List.take_zero]; rfl⟩, (Below.refl _ w).alloc (Nat.le_refl _) _⟩
  case round =>
    obtain ⟨k, A', m, c', hk, rfl, rfl, hm, hmc, hcm, hO, hBel⟩ := hrel
    by_cases hlt : k < n
    · have hlz : (k : Int) < (n : Int) := by omega
      obtain ⟨b, off, f, rfl, hb, hf, y0, y1⟩ := (H0.out.below hBel.out hB).fl hlt
      have HTK := Lib.hid (take_snoc hf)
      have HSN := Lib.hid (wotF_snoc (l.take k) f s)
      rw [← HTK.out] at HSN
      have HM : Hid (m = (wotF (l.take k) s).length) := hm
      have hm6 : m ≤ k := by rw [HM.out]; have := wotF_len (l.take k) s; rw [List.length_take] at this; omega
      have HO := Lib.hid hO.out; have HBE := Lib.hid hBel.out
      clear hf hm hO hBel
      obtain ⟨fp, fd⟩ := f
      simp only at y0 y1 HSN
      have t2 := str_dec fp s
      have l1 : (fp.toList != s.toList) = !(decide (fp = s)) := by rw [← str_dec]; rfl
      by_cases he : fp = s
      · have HS2 : Hid (wotF (l.take (k + 1)) s = wotF (l.take k) s) := by have := HSN.out; rw [if_pos he] at this; exact this
        rw [decide_eq_true he] at t2 l1
        clear he HSN
        go_wp2_with fail
        go_roundw
        case rel => exact ⟨k + 1, A', m, c', hlt, by go_num, rfl, by rw [HS2.out]; exact HM.out, hmc, hcm, by rw [HS2.out]; exact HO.out, HBE.out⟩
        case measure => simp [intOf]; omega
      · have HS2 : Hid (wotF (l.take (k + 1)) s = wotF (l.take k) s ++ [(fp, fd)]) := by have := HSN.out; rw [if_neg he] at this; exact this
        rw [decide_eq_false he] at t2 l1
        clear he HSN
        have zr : w.heap.size ≤ wr.heap.size := HBE.out.size
        go_wp2_with (at_builtin; refine halt_app9 (.tmp 21) (.tmp 26) 24 rfl ?_)
        refine unhalt ?_
        refine wpList_append_apd (base := w.heap.size) (size := 2) _ rfl (.tmp 21) (.tmp 26) 24 rfl 68 i0 _ 32 Tryz.underlying24 Hi.out Hz0.out Hz1.out Hz2.out rfl (by decide) A' m c' _ rfl (HO.out.below ((Below.refl _ wr).alloc (Nat.le_refl _) _)) _ (some ⟨wr.heap.size, 0, none⟩) 1 1 (flat flC [(fp, fd)]) rfl (Sl.of_bk (Bk.new wr _ _) rfl) (flC_one _) (by unfold maxLen; omega) (by omega) (by simp; omega) ?_
        intro A4 c4 w4 ha4 hb4 hn4 hm4 _
        rw [← flat_append, ← HS2.out] at ha4
        have HA4 := Lib.hid ha4
        have HB4 : Hid (Below w.heap.size w w4) := (HBE.out.alloc zr _).trans hb4
        have HN4 : Hid (m + 1 = (wotF (l.take (k + 1)) s).length) := by show _ = _; rw [HS2.out, List.length_append, ← HM.out]; rfl
        clear ha4 hb4 HO HBE y0 y1
        go_wp2_with fail
        go_roundw
        case rel => exact ⟨k + 1, A4, m + 1, c4, hlt, by go_num, rfl, HN4.out, hn4, hm4, HA4.out, HB4.out⟩
        case measure => simp [intOf]; omega
    · have hlz : ¬ (k : Int) < (n : Int) := by omega
      have HE : Hid (l.take k = l) := List.take_of_length_le (by rw [HL.out]; omega)
      have HM : Hid (m = (wotF (l.take k) s).length) := hm
      have HO := Lib.hid hO.out; have HBE := Lib.hid hBel.out
      clear hm hO hBel
      go_wp2_with fail
      go_ret
      have h1 := HO.out.sl
      have h2 := HM.out
      rw [HE.out] at h1 h2
      exact ⟨A', c', by rw [← h2]; rfl, by rw [← h2]; exact h1, by rw [← h2]; exact hmc, hcm, HBE.out⟩
set_option maxRecDepth 100000 in
set_option maxHeartbeats 8000000 in
theorem with9_any (A : Option Addr) (n c B : Nat) (l : List Fl) (f : Fl) (w : World) (h0 : Sl w B 2 A n (flat flC l)) (hB : B ≤ w.heap.size) (hn : n ≤ 1000000) (ha : AscF l) :
    Calls Tryz.prog 64 #[.slice A n c, fileV f] w (FlsE (withF l f) w) := by
  have HL := Lib.hid (h0.len flC_len (by omega))
  have HAS := Lib.hid ha
  obtain ⟨p, q⟩ := f
  unfold fileV
  obtain ⟨W, hW⟩ : ∃ W, w.alloc (.cells #[.string p, .string q] 68) = W := ⟨_, rfl⟩
  have HB0 : Hid (Below w.heap.size w W) := by rw [← hW]; exact (Below.refl _ w).alloc (Nat.le_refl _) _
  have HK : Hid (Bk W w.heap.size 68 #[.string p, .string q]) := by rw [← hW]; exact Bk.new w _ _
  have zk : w.heap.size < W.heap.size := HK.out.lt
  have H0 : Hid (Sl W B 2 A n (flat flC l)) := h0.below HB0.out hB
  clear h0 ha
  obtain ⟨i0, hi, hz0, hz1, hz2⟩ := info_parts infoFlI
  have Hi := Lib.hid hi; have Hz0 := Lib.hid hz0; have Hz1 := Lib.hid hz1; have Hz2 := Lib.hid hz2
  clear hi hz0 hz1 hz2
  go_enter Tryz.func64, Tryz.ntmps64
  go_wp2_with fail
  clear hW
  go_loopw [5, 6, 7] (fun q' u i wr => ∃ (k : Nat) (put : Bool) (out : List Fl) (A' : Option Addr) (c' : Nat), k ≤ n ∧ i = .int .i64 (k : Int) ∧ u = .bool put ∧ q' = .slice A' out.length c' ∧ out.length ≤ c' ∧ c' ≤ maxLen ∧ Hid (WithAt l (p, q) k put out) ∧ Hid (Apd wr W.heap.size 68 2 A' out.length c' (flat flC out)) ∧ Hid (Below W.heap.size W wr)) (fun _ _ i _ => n - (intOf i).toNat)
  case atStart => exact ⟨0, false, [], _, 0, Nat.zero_le _, rfl, rfl, rfl, Nat.le_refl _, Nat.zero_le _, .start _ _, .inr ⟨rfl, rfl, rfl⟩, (Below.refl _ W).alloc (Nat.le_refl _) _⟩
  case round =>
    obtain ⟨k, put, out, A', c', hk, rfl, rfl, rfl, hmc, hcm, hAt, hO, hBel⟩ := hrel
    have HO := Lib.hid hO.out; have HBE := Lib.hid hBel.out
    obtain ⟨k0, k1, _, _⟩ := (HK.out.below hBel.out zk).two
    have zr : W.heap.size ≤ wr.heap.size := HBE.out.size
    have hol : out.length ≤ k + 1 := hAt.out.len
    obtain ⟨m, hm⟩ : ∃ m, out.length = m := ⟨_, rfl⟩
    have HM := Lib.hid hm
    rw [hm] at hmc hol ⊢
    rw [hm] at HO
    clear hO hBel hm
    by_cases hlt : k < n
    · have hlz : (k : Int) < (n : Int) := by omega
      obtain ⟨b, off, f, rfl, hb, hf, y0, y1⟩ := (H0.out.below HBE.out (by omega)).fl hlt
      have HF := Lib.hid hf
      clear hf
      obtain ⟨fp, fd⟩ := f
      simp only at y0 y1
      have zb : b < wr.heap.size := by omega
      have t2 := str_dec fp p
      have l1 : (fp.toList != p.toList) = !(decide (fp = p)) := by rw [← str_dec]; rfl
      have u1 := less_str fp p
      have u2 := less_str p fp
      cases put with
      | true =>
        obtain ⟨ho, hd⟩ := hAt.out.of_true
        have HOO := Lib.hid ho; have HDD := Lib.hid hd
        clear ho hd hAt
        by_cases he : fp = p
        · subst he
          rw [decide_eq_true rfl] at t2 l1
          have HN : Hid (WithAt l (fp, q) (k + 1) true out) := WithAt.same_ HOO.out HDD.out HF.out rfl
          go_wp2_with fail
          go_quiet (fail)
          obtain ⟨wq, hwq⟩ : ∃ u, u = wr.drewN nq := ⟨_, rfl⟩
          rw [← hwq]
          replace HO : Hid (Apd wq W.heap.size 68 2 A' m c' (flat flC out)) := by rw [hwq]; exact HO.out
          replace HBE : Hid (Below W.heap.size W wq) := by rw [hwq]; exact below_drewN HBE.out _
          replace y0 : wq.cell? ⟨b, off + k * 2, none⟩ = some (.string fp) := by rw [hwq]; exact y0
          replace y1 : wq.cell? ⟨b, off + k * 2 + 1, none⟩ = some (.string fd) := by rw [hwq]; exact y1
          replace k0 : wq.cell? ⟨w.heap.size, 0, none⟩ = some (.string fp) := by rw [hwq]; exact k0
          replace k1 : wq.cell? ⟨w.heap.size, 1, none⟩ = some (.string q) := by rw [hwq]; exact k1
          replace zr : W.heap.size ≤ wq.heap.size := by rw [hwq]; exact zr
          clear hwq
          go_wp2_with fail
          go_quiet (fail)
          go_wp2_with fail
          go_roundw
          case rel => exact ⟨k + 1, true, out, A', c', hlt, by go_num, rfl, by rw [HM.out], by rw [HM.out]; exact hmc, hcm, HN.out, by rw [HM.out]; exact apd_drewN HO.out _, below_drewN HBE.out _⟩
          case measure => simp [intOf]; omega
        · have HN : Hid (WithAt l (p, q) (k + 1) true (out ++ [(fp, fd)])) := WithAt.high HOO.out HDD.out HF.out he
          rw [decide_eq_false he] at t2 l1
          clear he
          go_wp2_with fail
          go_quiet (fail)
          obtain ⟨wq, hwq⟩ : ∃ u, u = wr.drewN nq := ⟨_, rfl⟩
          rw [← hwq]
          replace HO : Hid (Apd wq W.heap.size 68 2 A' m c' (flat flC out)) := by rw [hwq]; exact HO.out
          replace HBE : Hid (Below W.heap.size W wq) := by rw [hwq]; exact below_drewN HBE.out _
          replace y0 : wq.cell? ⟨b, off + k * 2, none⟩ = some (.string fp) := by rw [hwq]; exact y0
          replace y1 : wq.cell? ⟨b, off + k * 2 + 1, none⟩ = some (.string fd) := by rw [hwq]; exact y1
          replace k0 : wq.cell? ⟨w.heap.size, 0, none⟩ = some (.string p) := by rw [hwq]; exact k0
          replace k1 : wq.cell? ⟨w.heap.size, 1, none⟩ = some (.string q) := by rw [hwq]; exact k1
          replace zr : W.heap.size ≤ wq.heap.size := by rw [hwq]; exact zr
          clear hwq
          go_wp2_with fail
          go_quiet (fail)
          go_wp2_with (at_builtin; refine halt_app9 (.tmp 39) (.tmp 44) 24 rfl ?_)
          refine unhalt ?_
          refine wpList_append_apd (base := W.heap.size) (size := 2) _ rfl (.tmp 39) (.tmp 44) 24 rfl 68 i0 _ 32 Tryz.underlying24 Hi.out Hz0.out Hz1.out Hz2.out rfl (by decide) A' m c' _ rfl (Apd.below (apd_drewN HO.out _) ((Below.refl _ _).alloc (Nat.le_refl _) _)) _ _ 1 1 (flat flC [(fp, fd)]) rfl (Sl.of_bk (n := 1) (size := 2) (Bk.new _ _ _) rfl) (flC_one _) (by unfold maxLen; omega) (by omega) (by rw [World.size_alloc]; exact Nat.le_succ_of_le zr) ?_
          intro A4 c4 w4 ha4 hb4 hn4 hm4 _
          rw [← flat_append] at ha4
          have HA4 := Lib.hid ha4
          have HB4 : Hid (Below W.heap.size W w4) := (Below.alloc (below_drewN HBE.out _) zr _).trans hb4
          clear ha4 hb4
          go_wp2_with fail
          go_roundw
          case rel => exact ⟨k + 1, true, out ++ [(fp, fd)], A4, c4, hlt, by go_num, rfl, by rw [List.length_append, HM.out]; rfl, by rw [List.length_append, HM.out]; exact hn4, hm4, HN.out, by rw [List.length_append, HM.out]; exact HA4.out, HB4.out⟩
          case measure => simp [intOf]; omega
      | false =>
        cases hl : less fp p with
        | true =>
          have he : fp ≠ p := fun e => by rw [e, lessB_irrefl] at hl; cases hl
          have HN : Hid (WithAt l (p, q) (k + 1) false (out ++ [(fp, fd)])) := WithAt.low hAt.out HF.out hl
          rw [decide_eq_false he] at t2 l1
          rw [hl] at u1
          clear he hl hAt
          go_wp2_with fail
          go_quiet (fail)
          obtain ⟨wq, hwq⟩ : ∃ u, u = wr.drewN nq := ⟨_, rfl⟩
          rw [← hwq]
          replace HO : Hid (Apd wq W.heap.size 68 2 A' m c' (flat flC out)) := by rw [hwq]; exact HO.out
          replace HBE : Hid (Below W.heap.size W wq) := by rw [hwq]; exact below_drewN HBE.out _
          replace y0 : wq.cell? ⟨b, off + k * 2, none⟩ = some (.string fp) := by rw [hwq]; exact y0
          replace y1 : wq.cell? ⟨b, off + k * 2 + 1, none⟩ = some (.string fd) := by rw [hwq]; exact y1
          replace k0 : wq.cell? ⟨w.heap.size, 0, none⟩ = some (.string p) := by rw [hwq]; exact k0
          replace k1 : wq.cell? ⟨w.heap.size, 1, none⟩ = some (.string q) := by rw [hwq]; exact k1
          replace zr : W.heap.size ≤ wq.heap.size := by rw [hwq]; exact zr
          clear hwq
          go_wp2_with fail
          go_quiet (fail)
          go_wp2_with (at_builtin; refine halt_app9 (.tmp 39) (.tmp 44) 24 rfl ?_)
          refine unhalt ?_
          refine wpList_append_apd (base := W.heap.size) (size := 2) _ rfl (.tmp 39) (.tmp 44) 24 rfl 68 i0 _ 32 Tryz.underlying24 Hi.out Hz0.out Hz1.out Hz2.out rfl (by decide) A' m c' _ rfl (Apd.below (apd_drewN HO.out _) ((Below.refl _ _).alloc (Nat.le_refl _) _)) _ _ 1 1 (flat flC [(fp, fd)]) rfl (Sl.of_bk (n := 1) (size := 2) (Bk.new _ _ _) rfl) (flC_one _) (by unfold maxLen; omega) (by omega) (by rw [World.size_alloc]; exact Nat.le_succ_of_le zr) ?_
          intro A4 c4 w4 ha4 hb4 hn4 hm4 _
          rw [← flat_append] at ha4
          have HA4 := Lib.hid ha4
          have HB4 : Hid (Below W.heap.size W w4) := (Below.alloc (below_drewN HBE.out _) zr _).trans hb4
          clear ha4 hb4
          go_wp2_with fail
          go_roundw
          case rel => exact ⟨k + 1, false, out ++ [(fp, fd)], A4, c4, hlt, by go_num, rfl, by rw [List.length_append, HM.out]; rfl, by rw [List.length_append, HM.out]; exact hn4, hm4, HN.out, by rw [List.length_append, HM.out]; exact HA4.out, HB4.out⟩
          case measure => simp [intOf]; omega
        | false =>
          obtain ⟨ho, hd⟩ := WithAt.put_ HAS.out hAt.out HF.out hl
          have HOO := Lib.hid ho; have HDD := Lib.hid hd
          rw [hl] at u1
          clear ho hd hAt hl
          go_wp2_with fail
          go_quiet (fail)
          obtain ⟨wq, hwq⟩ : ∃ u, u = wr.drewN nq := ⟨_, rfl⟩
          rw [← hwq]
          replace HO : Hid (Apd wq W.heap.size 68 2 A' m c' (flat flC out)) := by rw [hwq]; exact HO.out
          replace HBE : Hid (Below W.heap.size W wq) := by rw [hwq]; exact below_drewN HBE.out _
          replace y0 : wq.cell? ⟨b, off + k * 2, none⟩ = some (.string fp) := by rw [hwq]; exact y0
          replace y1 : wq.cell? ⟨b, off + k * 2 + 1, none⟩ = some (.string fd) := by rw [hwq]; exact y1
          replace k0 : wq.cell? ⟨w.heap.size, 0, none⟩ = some (.string p) := by rw [hwq]; exact k0
          replace k1 : wq.cell? ⟨w.heap.size, 1, none⟩ = some (.string q) := by rw [hwq]; exact k1
          replace zr : W.heap.size ≤ wq.heap.size := by rw [hwq]; exact zr
          clear hwq
          go_wp2_with (at_builtin; refine halt_app9 (.tmp 27) (.tmp 29) 24 rfl ?_)
          refine unhalt ?_
          refine wpList_append_apd (base := W.heap.size) (size := 2) _ rfl (.tmp 27) (.tmp 29) 24 rfl 68 i0 _ 32 Tryz.underlying24 Hi.out Hz0.out Hz1.out Hz2.out rfl (by decide) A' m c' _ rfl (Apd.below HO.out ((Below.refl _ _).alloc (Nat.le_refl _) _)) _ _ 1 1 (flat flC [(p, q)]) rfl (Sl.of_bk (n := 1) (size := 2) (Bk.new _ _ _) rfl) (flC_one _) (by unfold maxLen; omega) (by omega) (by rw [World.size_alloc]; exact Nat.le_succ_of_le zr) ?_
          intro A4 c4 w4 ha4 hb4 hn4 hm4 _
          rw [← flat_append] at ha4
          have HA4 := Lib.hid ha4
          have HB4 : Hid (Below W.heap.size W w4) := (Below.alloc HBE.out zr _).trans hb4
          clear ha4 hb4
          have zr4 : W.heap.size ≤ w4.heap.size := HB4.out.size
          obtain ⟨k0, k1, _, _⟩ := (HK.out.below HB4.out zk).two
          obtain ⟨b', off', f', hfe, hbB', hf', y0, y1⟩ := (H0.out.below HB4.out (by omega)).fl hlt
          cases hfe
          obtain rfl : f' = (fp, fd) := by rw [HF.out] at hf'; exact (Option.some.inj hf').symm
          simp only at y0 y1
          clear hf'
          by_cases he : fp = p
          · subst he
            rw [decide_eq_true rfl] at t2 l1
            have HN : Hid (WithAt l (fp, q) (k + 1) true (out ++ [(fp, q)])) := WithAt.same_ HOO.out HDD.out HF.out rfl
            go_wp2_with fail
            go_quiet (fail)
            go_wp2_with fail
            go_roundw
            case rel => exact ⟨k + 1, true, out ++ [(fp, q)], A4, c4, hlt, by go_num, rfl, by rw [List.length_append, HM.out]; rfl, by rw [List.length_append, HM.out]; exact hn4, hm4, HN.out, by rw [List.length_append, HM.out]; exact apd_drewN HA4.out _, below_drewN HB4.out _⟩
            case measure => simp [intOf]; omega
          · have HN : Hid (WithAt l (p, q) (k + 1) true (out ++ [(p, q)] ++ [(fp, fd)])) := WithAt.high HOO.out HDD.out HF.out he
            rw [decide_eq_false he] at t2 l1
            clear he
            go_wp2_with fail
            go_quiet (fail)
            go_wp2_with (at_builtin; refine halt_app9 (.tmp 39) (.tmp 44) 24 rfl ?_)
            refine unhalt ?_
            refine wpList_append_apd (base := W.heap.size) (size := 2) _ rfl (.tmp 39) (.tmp 44) 24 rfl 68 i0 _ 32 Tryz.underlying24 Hi.out Hz0.out Hz1.out Hz2.out rfl (by decide) A4 (m + 1) c4 _ rfl (Apd.below (apd_drewN HA4.out _) ((Below.refl _ _).alloc (Nat.le_refl _) _)) _ _ 1 1 (flat flC [(fp, fd)]) rfl (Sl.of_bk (n := 1) (size := 2) (Bk.new _ _ _) rfl) (flC_one _) (by unfold maxLen; omega) (by omega) (by rw [World.size_alloc]; exact Nat.le_succ_of_le zr4) ?_
            intro A4' c4' w4' ha4 hb4 hn4' hm4' _
            rw [← flat_append] at ha4
            have HA4' := Lib.hid ha4
            have HB4' : Hid (Below W.heap.size W w4') := (Below.alloc (below_drewN HB4.out _) zr4 _).trans hb4
            clear ha4 hb4
            go_wp2_with fail
            go_roundw
            case rel => exact ⟨k + 1, true, out ++ [(p, q)] ++ [(fp, fd)], A4', c4', hlt, by go_num, rfl, by rw [List.length_append, List.length_append, HM.out]; rfl, by rw [List.length_append, List.length_append, HM.out]; exact hn4', hm4', HN.out, by rw [List.length_append, List.length_append, HM.out]; exact HA4'.out, HB4'.out⟩
            case measure => simp [intOf]; omega
    · have hlz : ¬ (k : Int) < (n : Int) := by omega
      have hle : l.length ≤ k := by rw [HL.out]; omega
      cases put with
      | true =>
        have HN : Hid (out = withF l (p, q)) := hAt.out.done_true hle
        clear hAt
        go_wp2_with fail
        go_ret
        rw [← HN.out]
        exact ⟨A', c', by rw [HM.out]; rfl, by rw [HM.out]; exact HO.out.sl, by rw [HM.out]; exact hmc, hcm, HB0.out.trans (HBE.out.mono (Nat.le_of_lt zk))⟩
      | false =>
        have HN : Hid (out ++ [(p, q)] = withF l (p, q)) := hAt.out.done_false hle
        clear hAt
        go_wp2_with (at_builtin; refine halt_app9 (.tmp 48) (.tmp 50) 24 rfl ?_)
        refine unhalt ?_
        refine wpList_append_apd (base := W.heap.size) (size := 2) _ rfl (.tmp 48) (.tmp 50) 24 rfl 68 i0 _ 32 Tryz.underlying24 Hi.out Hz0.out Hz1.out Hz2.out rfl (by decide) A' m c' _ rfl (Apd.below HO.out ((Below.refl _ _).alloc (Nat.le_refl _) _)) _ _ 1 1 (flat flC [(p, q)]) rfl (Sl.of_bk (n := 1) (size := 2) (Bk.new _ _ _) rfl) (flC_one _) (by unfold maxLen; omega) (by omega) (by rw [World.size_alloc]; exact Nat.le_succ_of_le zr) ?_
        intro A4 c4 w4 ha4 hb4 hn4 hm4 _
        rw [← flat_append] at ha4
        have HA4 := Lib.hid ha4
        have HB4 : Hid (Below W.heap.size W w4) := (Below.alloc HBE.out zr _).trans hb4
        clear ha4 hb4
        go_wp2_with fail
        go_ret
        rw [← HN.out]
        exact ⟨A4, c4, by rw [List.length_append, HM.out]; rfl, by rw [List.length_append, HM.out]; exact HA4.out.sl, by rw [List.length_append, HM.out]; exact hn4, hm4, HB0.out.trans (HB4.out.mono (Nat.le_of_lt zk))⟩
end Go.Proofs.YtmdhlkkekidknaaGreatDoor

namespace Go.Proofs.YtmdhlkkekidknaaGreatDoor
open Go.RowKit

def entN (es : List Ent) (n : ByteArray) : Option Ent := es.find? (fun e => decide (e.nm = n))
noncomputable def datP (p : List Itm) (d : Dig) : ByteArray × Int := match getP p d with
  | none => (⟨#[]⟩, 8)
  | some o => if o.kind = 1 then (o.data, 0) else (⟨#[]⟩, 9)
noncomputable def getF (p : List Itm) : Nat → Dig → ByteArray → ByteArray × Int
  | 0, _, _ => (⟨#[]⟩, 8)
  | k + 1, d, s => match getP p d with
    | none => (⟨#[]⟩, 8)
    | some o => if o.kind = 2 then (match entN o.ents (fsN s) with
      | none => (⟨#[]⟩, 8)
      | some e => if e.dir = deN s then (if deN s = true then getF p k e.dg (rsN s) else datP p e.dg) else (⟨#[]⟩, 9)) else (⟨#[]⟩, 9)
section
variable {p : List Itm} {k : Nat} {d : Dig} {s : ByteArray}
theorem datP_none (h : getP p d = none) : datP p d = (⟨#[]⟩, 8) := by unfold datP; rw [h]
theorem datP_kind {o : Ob} (h : getP p d = some o) (hk : o.kind ≠ 1) : datP p d = (⟨#[]⟩, 9) := by unfold datP; rw [h]; simp only [if_neg hk]
theorem datP_some {o : Ob} (h : getP p d = some o) (hk : o.kind = 1) : datP p d = (o.data, 0) := by unfold datP; rw [h]; simp only [if_pos hk]
theorem getF_none (h : getP p d = none) : getF p (k + 1) d s = (⟨#[]⟩, 8) := by rw [getF, h]
theorem getF_kind {o : Ob} (h : getP p d = some o) (hk : o.kind ≠ 2) : getF p (k + 1) d s = (⟨#[]⟩, 9) := by rw [getF, h]; simp only [if_neg hk]
theorem getF_ent {o : Ob} (h : getP p d = some o) (hk : o.kind = 2) (he : entN o.ents (fsN s) = none) : getF p (k + 1) d s = (⟨#[]⟩, 8) := by rw [getF, h]; simp only [if_pos hk, he]
theorem getF_dir {o : Ob} {e : Ent} (h : getP p d = some o) (hk : o.kind = 2) (he : entN o.ents (fsN s) = some e) (hd : e.dir ≠ deN s) : getF p (k + 1) d s = (⟨#[]⟩, 9) := by rw [getF, h]; simp only [if_pos hk, he, if_neg hd]
theorem getF_sub {o : Ob} {e : Ent} (h : getP p d = some o) (hk : o.kind = 2) (he : entN o.ents (fsN s) = some e) (hd : e.dir = true) (hs : deN s = true) : getF p (k + 1) d s = getF p k e.dg (rsN s) := by
  rw [getF, h]; simp only [if_pos hk, he, hd, hs, if_true]
theorem getF_file {o : Ob} {e : Ent} (h : getP p d = some o) (hk : o.kind = 2) (he : entN o.ents (fsN s) = some e) (hd : e.dir = false) (hs : deN s = false) : getF p (k + 1) d s = datP p e.dg := by
  rw [getF, h]; simp only [if_pos hk, he, hd, hs, if_true, Bool.false_eq_true, if_false]
end
theorem entN_at {es : List Ent} {n : ByteArray} {j : Nat} {e : Ent} (h : ∀ (i : Nat) (x : Ent), i < j → es[i]? = some x → x.nm ≠ n) (hj : es[j]? = some e) (he : e.nm = n) : entN es n = some e := by
  unfold entN
  rw [← List.take_append_drop j es, List.find?_append]
  have h0 : (es.take j).find? (fun e => decide (e.nm = n)) = none := by
    rw [List.find?_eq_none]
    intro x hx
    obtain ⟨i, hi, e'⟩ := List.getElem_of_mem hx
    rw [List.length_take] at hi
    rw [List.getElem_take] at e'
    have := h i x (by omega) (by rw [← e']; exact List.getElem?_eq_getElem (by omega))
    simpa using this
  rw [h0, drop_at hj]
  simp [he]
theorem entN_no {es : List Ent} {n : ByteArray} (h : ∀ (i : Nat) (x : Ent), es[i]? = some x → x.nm ≠ n) : entN es n = none := by
  unfold entN
  rw [List.find?_eq_none]
  intro x hx
  obtain ⟨i, hi⟩ := List.mem_iff_getElem?.1 hx
  simpa using h i x hi
def jnN : List (List UInt8) → List UInt8
  | [] => []
  | [n] => n
  | n :: m :: r => n ++ 47 :: jnN (m :: r)
theorem jn_split : ∀ (k : Nat) (l : List UInt8), l.length ≤ k → jnN (splitS l) = l := by
  intro k
  induction k with
  | zero =>
    intro l hl
    have : l = [] := List.eq_nil_of_length_eq_zero (by omega)
    subst this
    rw [splitS_slash]
    simp [slashL, jnN]
  | succ k ih =>
    intro l hl
    rw [splitS_slash]
    by_cases h : slashL l < l.length
    · rw [if_pos h]
      have h1 := ih (l.drop (slashL l + 1)) (by rw [List.length_drop]; omega)
      obtain ⟨a, r, e⟩ := List.exists_cons_of_ne_nil (splitS_ne (l.drop (slashL l + 1)))
      rw [e] at h1 ⊢
      rw [jnN, h1]
      exact (slashL_dec l h).symm
    · rw [if_neg h]; rfl
noncomputable def getN (p : List Itm) (k : Nat) (d : Dig) (ns : List (List UInt8)) : ByteArray × Int := getF p k d (ub (jnN ns))
theorem nosl_ub {n : List UInt8} (h : ∀ c ∈ n, c ≠ 47) : NoSl (ub n) := by intro c hc; rw [bl_ub] at hc; exact h c hc
theorem cut_jn1 {n : List UInt8} (hn : ∀ c ∈ n, c ≠ 47) : fsN (ub (jnN [n])) = ub n ∧ deN (ub (jnN [n])) = false := by
  have := cut_no (nosl_ub hn)
  exact this
theorem cut_jn {n m : List UInt8} {r : List (List UInt8)} (hn : ∀ c ∈ n, c ≠ 47) : fsN (ub (jnN (n :: m :: r))) = ub n ∧ rsN (ub (jnN (n :: m :: r))) = ub (jnN (m :: r)) ∧ deN (ub (jnN (n :: m :: r))) = true := by
  refine cut_of ?_ (nosl_ub hn)
  rw [bl_ub, bl_ub, bl_ub]; rfl
end Go.Proofs.YtmdhlkkekidknaaGreatDoor

namespace Go.Proofs.YtmdhlkkekidknaaGreatDoor
open Go.RowKit
attribute [local go_sem] Oper.semAt_some

def DatE (p : List Itm) (d : Dig) (w : World) (e : Ending) (w' : World) : Prop := e = .returned (.tuple #[.string (datP p d).1, .int .i64 (datP p d).2]) ∧ Below w.heap.size w w'
set_option maxRecDepth 100000 in
set_option maxHeartbeats 4000000 in
theorem tdata_any (A : Option Addr) (n c B : Nat) (p : List Itm) (d : Dig) (w : World) (h0 : Sl w B 3 A n (flat itC p)) (hB : B ≤ w.heap.size) (hn : n ≤ 1000000) (hp : PlOk p) :
    Calls Tryz.prog 72 #[.slice A n c, digV d] w (DatE p d w) := by
  obtain ⟨d1, d2⟩ := d
  obtain ⟨W, hW⟩ : ∃ W, w.alloc (.cells #[.int .u64 d1, .int .u64 d2] 30) = W := ⟨_, rfl⟩
  have HB0 : Hid (Below w.heap.size w W) := by rw [← hW]; exact (Below.refl _ w).alloc (Nat.le_refl _) _
  have HC := Lib.hid (pget_any A n c B p (d1, d2) W (h0.below HB0.out hB) (Nat.le_trans hB HB0.out.size) hn hp)
  have HW := Lib.hid hW
  clear hW hp h0
  unfold GeE at HC
  simp only [digV] at HC ⊢
  go_enter Tryz.func72, Tryz.ntmps72
  go_wp2_with fail
  rw [HW.out]
  refine HC.out.mono ?_
  rintro e w2 ⟨hq, hb⟩
  have HB2 : Hid (Below w.heap.size w w2) := HB0.out.trans (hb.mono HB0.out.size)
  clear hb HC
  rcases hq with ⟨o, s, hg, _, rfl, _, _⟩ | ⟨hg, rfl⟩
  · by_cases hk : o.kind = 1
    · have HD := Lib.hid (datP_some hg hk)
      have t1 : (o.kind != 1) = false := by rw [hk]; rfl
      simp only [obV, obC]
      clear hg hk
      go_wp2_with fail
      go_ret2
      exact ⟨by rw [HD.out]; rfl, HB2.out.alloc HB2.out.size _⟩
    · have HD := Lib.hid (datP_kind hg hk)
      have t1 : (o.kind != 1) = true := by rw [bne_iff_ne]; exact hk
      simp only [obV, obC]
      clear hg hk
      go_wp2_with fail
      go_ret2
      exact ⟨by rw [HD.out]; rfl, HB2.out.alloc HB2.out.size _⟩
  · have HD := Lib.hid (datP_none hg)
    simp only [obV, obC, zOb, zOs]
    clear hg
    go_wp2_with fail
    go_ret2
    exact ⟨by rw [HD.out]; rfl, HB2.out.alloc HB2.out.size _⟩

/-! ### what is yielded -/
abbrev Vd := Fl × Int
def zF : Fl := (⟨#[]⟩, ⟨#[]⟩)
def vdA (x : Vd) : Array Value := #[.agg #[.string x.1.1, .string x.1.2, .int .i64 x.2]]
def vok (f : Fl) : Vd := (f, 0)
def vsT (z : Int) : List Vd := if z = 0 then [] else [(zF, z)]
def vsL (r : List Fl × Int) : List Vd := r.1.map vok ++ vsT r.2
theorem vsL_ok (s : List Fl) : vsL (s, 0) = s.map vok := by simp [vsL, vsT]
theorem vsL_err (s : List Fl) {z : Int} (h : z ≠ 0) : vsL (s, z) = s.map vok ++ [(zF, z)] := by simp [vsL, vsT, h]
structure KpV (B0 hz : Nat) (A B : World) : Prop where
  size : A.heap.size ≤ B.heap.size
  block : ∀ k, k < A.heap.size → (k < B0 ∨ (hz ≤ k ∧ ¬ isRow 68 A.heap[k]?)) → B.heap[k]? = A.heap[k]?
section
variable {B0 hz : Nat} {A B C : World}
theorem KpV.of_below (h : Below A.heap.size A B) : KpV B0 hz A B := ⟨h.size, fun k hk _ => h.block k hk⟩
theorem KpV.trans (h : KpV B0 hz A B) (g : KpV B0 hz B C) : KpV B0 hz A C :=
  ⟨Nat.le_trans h.size g.size, fun k hk hc => by
    have h1 := h.block k hk hc
    rw [← h1] at hc ⊢
    exact g.block k (Nat.lt_of_lt_of_le hk h.size) hc⟩
theorem KpV.refl (B0 hz : Nat) (A : World) : KpV B0 hz A A := ⟨Nat.le_refl _, fun _ _ _ => rfl⟩
theorem KpV.bk (h : KpV B0 hz A B) {b : Nat} {t : TypeId} {cs : Array Value} (hb : hz ≤ b) (ht : t ≠ 68) (hk : Bk A b t cs) : Bk B b t cs := by
  refine (h.block b hk.lt (.inr ⟨hb, ?_⟩)).trans hk
  have h1 : A.heap[b]? = some (.cells cs t (0, 0)) := hk
  rw [h1]; exact ht
theorem KpV.sl (h : KpV B0 hz A B) {B' size n : Nat} {a : Option Addr} {xs : List Value} (hs : Sl A B' size a n xs) (h1 : B' ≤ B0) (h2 : B0 ≤ A.heap.size) : Sl B B' size a n xs :=
  hs.keep fun p hp => World.cell?_of_block (h.block p.block (by omega) (.inl (by omega)))
theorem KpV.ents (h : KpV B0 hz A B) {s : Osl} {es : List Ent} (hn : NewO A hz s) (hs : Sl A A.heap.size 4 s.eA s.en (flat enC es)) : Sl B B.heap.size 4 s.eA s.en (flat enC es) ∧ NewO B hz s := by
  refine ⟨⟨hs.1, fun h0 => ?_⟩, fun a h0 ha => ?_⟩
  · obtain ⟨b, off, e1, hb, hc⟩ := hs.2 h0
    obtain ⟨h3, cur, h4⟩ := hn _ h0 e1
    have hbl : B.heap[b]? = A.heap[b]? := h.block b hb (.inr ⟨h3, by
      have h4' : A.heap[b]? = some (.cells cur 102 (0, 0)) := h4
      rw [h4']; show ¬ (102 = 68); decide⟩)
    exact ⟨b, off, e1, Nat.lt_of_lt_of_le hb h.size, fun j u hu => (World.cell?_of_block hbl).trans (hc j u hu)⟩
  · obtain ⟨b, off, e1, hb, _⟩ := hs.2 h0
    obtain ⟨h3, cur, h4⟩ := hn a h0 ha
    refine ⟨h3, cur, (h.block a.block (Array.getElem?_eq_some_iff.1 h4).1 (.inr ⟨h3, ?_⟩)).trans h4⟩
    rw [h4]; show ¬ (102 = 68); decide
end
theorem RoundIn.wide {n m : Nat} {P : Program} {l f : Nat} {tmps : Array Value} {assign body : Code} {w : World} {R : Ending → World → Prop} (h : RoundIn Fence.wide n P l f tmps assign body w R) : RoundIn Fence.wide m P l f tmps assign body w R :=
  ⟨h.1, fun c cs _ => h.2 c cs (room_wide _)⟩
def YldV (m l B0 hz : Nat) (ALL : List Vd) (J Jx : List Vd → World → Prop) : Prop :=
  ∀ (pre : List Vd) (x : Vd) (W1 : World), (∃ t, pre ++ [x] ++ t = ALL) → J pre W1 → YieldAt Fence.wide m Tryz.prog l (vdA x) W1 fun e W' =>
    (e = .returned (.bool true) ∧ J (pre ++ [x]) W' ∧ KpV B0 hz W1 W') ∨ (e = .returned (.bool false) ∧ Jx (pre ++ [x]) W')
def VisE (r : List Fl × Int) (pr0 ALL : List Vd) (B0 hz : Nat) (J Jx : List Vd → World → Prop) (W : World) (e : Ending) (W' : World) : Prop :=
  (e = .returned (.bool true) ∧ r.2 = 0 ∧ J (pr0 ++ r.1.map vok) W' ∧ KpV B0 hz W W') ∨ (e = .returned (.bool false) ∧ ((∃ q t, q ++ t = ALL ∧ Jx q W') ∨ (r.2 ≠ 0 ∧ J (pr0 ++ vsL r) W')))
def VisC (n : Nat) : Prop := ∀ (p : List Itm) (d : Dig) (pr : ByteArray) (A : Option Addr) (np cp B B0 hz l m : Nat) (ALL pr0 : List Vd) (J Jx : List Vd → World → Prop) (W : World),
    PlOk p → Sl W B 3 A np (flat itC p) → B ≤ B0 → B0 ≤ hz → hz ≤ W.heap.size → np ≤ 1000000 → pr.size ≤ 101 → 102 ≤ n + pr.size → (∃ t, pr0 ++ vsL (vis p n d pr) ++ t = ALL) →
    (∀ pre A B, J pre A → Below A.heap.size A B → J pre B) → YldV m l B0 hz ALL J Jx → J pr0 W →
    Calls Tryz.prog 108 #[.slice A np cp, digV d, .string pr, .func (.yield l) #[] #[]] W (VisE (vis p n d pr) pr0 ALL B0 hz J Jx W)
def FaiE (pr0 ALL : List Vd) (z : Int) (J Jx : List Vd → World → Prop) (e : Ending) (W' : World) : Prop := e = .returned (.bool false) ∧ ((∃ q t, q ++ t = ALL ∧ Jx q W') ∨ J (pr0 ++ [(zF, z)]) W')
set_option maxRecDepth 100000 in
set_option maxHeartbeats 1000000 in
theorem fail_any (m l B0 hz bx : Nat) (ALL pr0 : List Vd) (z : Int) (J Jx : List Vd → World → Prop) (W : World) (hk : Bk W bx 140 #[.func (.yield l) #[] #[]]) (hY : YldV m l B0 hz ALL J Jx) (hj : J pr0 W) (ht : ∃ t, pr0 ++ [(zF, z)] ++ t = ALL) :
    Calls Tryz.prog 144 #[.int .i64 z, .pointer (some ⟨bx, 0, none⟩)] W (FaiE pr0 ALL z J Jx) := by
  refine (callsIn_wide (n := 6)).1 ?_
  obtain ⟨fn, tmps, assign, body, hy, hR⟩ := hY pr0 (zF, z) W ht hj
  have HR := Lib.hid (RoundIn.wide (m := 5) hR)
  have c0 := hk.cell 0
  simp at c0
  have HT := Lib.hid ht
  simp only [vdA, zF] at hy
  clear hk hY hj hR ht
  refine callsIn_of_wp Tryz.func144 rfl trivial ?_ rfl
  simp only [Tryz.ntmps144, List.size_toArray, List.length_cons, List.length_nil, Nat.reduceAdd, Nat.reduceSub, Array.replicate_succ, Array.replicate_zero, List.push_toArray, List.append_toArray, List.nil_append, List.cons_append]
  gi_wp2
  refine HR.out.mono ?_
  rintro e W3 (⟨rfl, hJ3, _⟩ | ⟨rfl, hJ3⟩)
  · have HJ3 := Lib.hid hJ3
    clear hJ3 HR hy c0
    gi_wp2
    go_ret
    exact ⟨rfl, .inr HJ3.out⟩
  · have HJ3 := Lib.hid hJ3
    clear hJ3 HR hy c0
    gi_wp2
    go_ret
    obtain ⟨t, ht⟩ := HT.out
    exact ⟨rfl, .inl ⟨_, t, ht, HJ3.out⟩⟩
end Go.Proofs.YtmdhlkkekidknaaGreatDoor

namespace Go.Proofs.YtmdhlkkekidknaaGreatDoor
open Go.RowKit
attribute [local go_sem] Oper.semAt_some

section
variable {g : Dig → ByteArray → List Fl × Int} {p : List Itm} {pre : ByteArray} {es : List Ent} {fs gs : List Fl} {j : Nat} {e : Ent} {pr0 ALL : List Vd}
theorem vsA_err (h : VisAt g p pre es j fs) (hj : es[j]? = some e) {z : Int} (hz : vsE g p pre (e :: es.drop (j + 1)) = ([], z)) (h0 : z ≠ 0) (ha : ∃ t, pr0 ++ vsL (vsE g p pre es) ++ t = ALL) :
    (∃ t, pr0 ++ fs.map vok ++ [(zF, z)] ++ t = ALL) ∧ (vsE g p pre es).2 ≠ 0 ∧ pr0 ++ fs.map vok ++ [(zF, z)] = pr0 ++ vsL (vsE g p pre es) := by
  have e1 := h.fail hj hz
  rw [List.append_nil] at e1
  rw [e1, vsL_err _ h0] at ha
  rw [e1, vsL_err _ h0]
  obtain ⟨t, ht⟩ := ha
  exact ⟨⟨t, by rw [← ht]; simp⟩, h0, by simp⟩
theorem vsA_file (h : VisAt g p pre es j fs) (hj : es[j]? = some e) (hlt : ¬ 100 < (pre ++ e.nm).size) (hd : e.dir = false) {o : Ob} (hg : getP p e.dg = some o) (hk : o.kind = 1) (ha : ∃ t, pr0 ++ vsL (vsE g p pre es) ++ t = ALL) :
    (∃ t, pr0 ++ fs.map vok ++ [((pre ++ e.nm, o.data), 0)] ++ t = ALL) ∧ VisAt g p pre es (j + 1) (fs ++ [(pre ++ e.nm, o.data)]) := by
  have h1 := h.more hj (gs := [(pre ++ e.nm, o.data)]) (by rw [vsE_file hlt hd hg hk]; rfl)
  refine ⟨?_, h1⟩
  unfold VisAt at h1
  rw [h1] at ha
  obtain ⟨t, ht⟩ := ha
  unfold vsL at ht
  simp only [List.map_append, List.append_assoc] at ht
  exact ⟨_, by simp only [List.append_assoc]; exact ht⟩
theorem vsA_dir (h : VisAt g p pre es j fs) (hj : es[j]? = some e) (hlt : ¬ 100 < (pre ++ e.nm).size) (hd : e.dir = true) (ha : ∃ t, pr0 ++ vsL (vsE g p pre es) ++ t = ALL) :
    (∃ t, pr0 ++ fs.map vok ++ vsL (g e.dg (pre ++ e.nm ++ slB)) ++ t = ALL) ∧ ((g e.dg (pre ++ e.nm ++ slB)).2 = 0 → VisAt g p pre es (j + 1) (fs ++ (g e.dg (pre ++ e.nm ++ slB)).1)) ∧
      ((g e.dg (pre ++ e.nm ++ slB)).2 ≠ 0 → (vsE g p pre es).2 ≠ 0 ∧ pr0 ++ fs.map vok ++ vsL (g e.dg (pre ++ e.nm ++ slB)) = pr0 ++ vsL (vsE g p pre es)) := by
  obtain ⟨⟨s, z⟩, hs⟩ : ∃ r, g e.dg (pre ++ e.nm ++ slB) = r := ⟨_, rfl⟩
  rw [hs]
  by_cases hz : z = 0
  · subst hz
    have h1 := h.more hj (gs := s) (by rw [vsE_dir hlt hd hs])
    refine ⟨?_, fun _ => h1, fun h0 => absurd rfl h0⟩
    unfold VisAt at h1
    rw [h1] at ha
    obtain ⟨t, ht⟩ := ha
    unfold vsL at ht
    simp only [List.map_append, List.append_assoc] at ht
    exact ⟨_, by rw [vsL_ok]; simp only [List.append_assoc]; exact ht⟩
  · have e1 := h.fail hj (vsE_sub hlt hd hz hs)
    refine ⟨?_, fun h0 => absurd h0 hz, fun _ => ?_⟩
    · rw [e1, vsL_err _ hz] at ha
      obtain ⟨t, ht⟩ := ha
      rw [vsL_err _ hz]
      exact ⟨t, by rw [← ht]; simp⟩
    · rw [e1, vsL_err _ hz, vsL_err _ hz]
      exact ⟨hz, by simp⟩
theorem vsA_done (h : VisAt g p pre es j fs) (hj : es.length ≤ j) : (vsE g p pre es).2 = 0 ∧ fs = (vsE g p pre es).1 := by rw [h.done hj]; exact ⟨rfl, rfl⟩
end
theorem ent_ways {g : Dig → ByteArray → List Fl × Int} (p : List Itm) (pre : ByteArray) (e : Ent) (r : List Ent) (hlt : ¬ 100 < (pre ++ e.nm).size) (hd : e.dir = false) :
    (∃ o, getP p e.dg = some o ∧ o.kind = 1 ∧ datP p e.dg = (o.data, 0)) ∨ ((datP p e.dg).2 ≠ 0 ∧ vsE g p pre (e :: r) = ([], (datP p e.dg).2)) := by
  cases hg : getP p e.dg with
  | none => exact .inr ⟨by rw [datP_none hg]; simp, by rw [vsE_none hlt hd hg, datP_none hg]⟩
  | some o =>
    by_cases hk : o.kind = 1
    · exact .inl ⟨o, rfl, hk, datP_some hg hk⟩
    · exact .inr ⟨by rw [datP_kind hg hk]; simp, by rw [vsE_kind hlt hd hg hk, datP_kind hg hk]⟩
theorem str_emp {s : ByteArray} (h : s ≠ ⟨#[]⟩) : s.toList.isEmpty = false := by
  cases h1 : s.toList with
  | nil =>
    rw [ByteArray.toList_eq] at h1
    exact absurd (data_inj (t := ⟨#[]⟩) h1) h
  | cons _ _ => rfl
set_option maxRecDepth 100000 in
set_option maxHeartbeats 16000000 in
theorem visit_core (n : Nat) (ih : VisC n) : VisC (n + 1) := by
  intro p d pr A np cp B B0 hz l m ALL pr0 J Jx W hp h0 hB hB0 hzW hnp hpr hn hall hJ hY hj
  obtain ⟨d1, d2⟩ := d
  have HP := Lib.hid hp; have H0 := Lib.hid h0; have HJ := Lib.hid hJ; have HY := Lib.hid hY; have HALL := Lib.hid hall; have IH := Lib.hid ih
  have HG := Lib.hid (pget_any A np cp B p (d1, d2) ((W.alloc (.cells #[.int .u64 d1, .int .u64 d2] 30)).alloc (.cells #[.func (.yield l) #[] #[]] 140))
    (h0.below (((Below.refl _ W).alloc (Nat.le_refl _) _).alloc (by simp) _) (by omega)) (by simp; omega) hnp hp)
  have HJ1 : Hid (J pr0 ((W.alloc (.cells #[.int .u64 d1, .int .u64 d2] 30)).alloc (.cells #[.func (.yield l) #[] #[]] 140))) := hJ _ _ _ hj (((Below.refl _ W).alloc (Nat.le_refl _) _).alloc (by simp) _)
  obtain ⟨W1, hW1⟩ : ∃ W1, (W.alloc (.cells #[.int .u64 d1, .int .u64 d2] 30)).alloc (.cells #[.func (.yield l) #[] #[]] 140) = W1 := ⟨_, rfl⟩
  have HB1 : Hid (Below W.heap.size W W1) := by rw [← hW1]; exact ((Below.refl _ W).alloc (Nat.le_refl _) _).alloc (by simp) _
  have HKY : Hid (Bk W1 (W.heap.size + 1) 140 #[.func (.yield l) #[] #[]]) := by
    rw [← hW1]
    have := Bk.new (W.alloc (.cells #[.int .u64 d1, .int .u64 d2] 30)) 140 #[.func (.yield l) #[] #[]]
    rw [World.size_alloc] at this; exact this
  have z1 : W.heap.size + 2 = W1.heap.size := by rw [← hW1]; simp
  rw [hW1] at HG HJ1
  have HW1 := Lib.hid hW1
  unfold GeE at HG
  simp only [digV] at HG ⊢
  clear hp h0 hJ hY hj hall hW1 ih
  refine (callsIn_wide (n := 6)).1 ?_
  refine callsIn_of_wp Tryz.func108 rfl trivial ?_ rfl
  simp only [Tryz.ntmps108, List.size_toArray, List.length_cons, List.length_nil, Nat.reduceAdd, Nat.reduceSub, Array.replicate_succ, Array.replicate_zero, List.push_toArray, List.append_toArray, List.nil_append, List.cons_append]
  gi_wp2_with fail
  rw [HW1.out]
  refine ⟨trivial, (callsIn_wide.2 HG.out).mono ?_⟩
  rintro e w2 ⟨hq, hb⟩
  have HB2 : Hid (Below W.heap.size W w2) := HB1.out.trans (hb.mono HB1.out.size)
  have HJ2 : Hid (J pr0 w2) := HJ.out _ _ _ HJ1.out hb
  have HKY2 := Lib.hid (HKY.out.below hb HKY.out.lt)
  have z2 : W.heap.size + 2 ≤ w2.heap.size := by have := hb.size; omega
  clear hb HG HKY HJ1 HB1
  rcases hq with ⟨o, s, hg, ho, rfl, hm, hn2⟩ | ⟨hg, rfl⟩
  case inr =>
    have HV := Lib.hid (vis_none (n := n) (pre := pr) hg)
    have hALL := HALL.out
    rw [HV.out, vsL_err _ (by decide)] at hALL
    simp only [obV, obC, zOb, zOs]
    obtain ⟨W3, hW3⟩ : ∃ W3, w2.alloc (.cells #[.int .i64 0, .string ⟨#[]⟩, .slice none 0 0, .int .u64 zD.1, .int .u64 zD.2, .slice none 0 0, .string ⟨#[]⟩, .int .i64 0, .string ⟨#[]⟩] 82) = W3 := ⟨_, rfl⟩
    have HB3 : Hid (Below w2.heap.size w2 W3) := by rw [← hW3]; exact (Below.refl _ w2).alloc (Nat.le_refl _) _
    have HF := Lib.hid (fail_any m l B0 hz (W.heap.size + 1) ALL pr0 8 J Jx W3 (HKY2.out.below HB3.out (by omega)) HY.out (HJ.out _ _ _ HJ2.out HB3.out) (by simpa using hALL))
    have HW3 := Lib.hid hW3
    clear hg hALL hW3
    gi_wp2_with fail
    rw [HW3.out]
    refine ⟨trivial, (callsIn_wide.2 HF.out).mono ?_⟩
    rintro e W4 ⟨rfl, hq⟩
    have HQ := Lib.hid hq
    clear hq HF
    gi_wp2
    go_ret
    refine .inr ⟨rfl, ?_⟩
    rw [HV.out]
    rcases HQ.out with h | h
    · exact .inl h
    · exact .inr ⟨by decide, by rw [vsL_err _ (by decide)]; exact h⟩
  case inl =>
    obtain ⟨W3, hW3⟩ : ∃ W3, w2.alloc (.cells (obC o s) 82) = W3 := ⟨_, rfl⟩
    have HB3 : Hid (Below w2.heap.size w2 W3) := by rw [← hW3]; exact (Below.refl _ w2).alloc (Nat.le_refl _) _
    have HK3 : Hid (Bk W3 w2.heap.size 82 (obC o s)) := by rw [← hW3]; exact Bk.new w2 _ _
    have HE3 : Hid (Sl W3 W3.heap.size 4 s.eA s.en (flat enC o.ents)) := (hm.e.below HB3.out (Nat.le_refl _)).more HB3.out.size
    have HN3 : Hid (NewO W3 hz s) := fun a h1 h2 => by
      obtain ⟨h3, cur, h4⟩ := hn2 a h1 h2
      exact ⟨by omega, cur, (HB3.out.block a.block (Array.getElem?_eq_some_iff.1 h4).1).trans h4⟩
    have hlen : s.en ≤ maxLen := Nat.le_trans hm.ele hm.emx
    have HEL := Lib.hid hm.elen
    have HKY3 := Lib.hid (HKY2.out.below HB3.out (by omega))
    have HJ3 : Hid (J pr0 W3) := HJ.out _ _ _ HJ2.out HB3.out
    have HBW : Hid (Below W.heap.size W W3) := HB2.out.trans (HB3.out.mono HB2.out.size)
    have z3 : w2.heap.size < W3.heap.size := HK3.out.lt
    have hlen' : s.en ≤ 9223372036854775807 := by unfold maxLen at hlen; exact hlen
    simp only [obV, obC]
    have HW3 := Lib.hid hW3
    unfold obC at HW3 HK3
    clear hW3 hm hn2 HKY2 HJ2
    by_cases hk : o.kind = 2
    case neg =>
      have HV := Lib.hid (vis_kind (n := n) (pre := pr) hg hk)
      have t1 : (o.kind != 2) = true := by rw [bne_iff_ne]; exact hk
      have hALL := HALL.out
      rw [HV.out, vsL_err _ (by decide)] at hALL
      have HF := Lib.hid (fail_any m l B0 hz (W.heap.size + 1) ALL pr0 9 J Jx W3 HKY3.out HY.out HJ3.out (by simpa using hALL))
      clear hg hALL hk ho
      gi_wp2_with fail
      rw [HW3.out]
      refine ⟨trivial, (callsIn_wide.2 HF.out).mono ?_⟩
      rintro e W4 ⟨rfl, hq⟩
      have HQ := Lib.hid hq
      clear hq HF
      gi_wp2
      go_ret
      refine .inr ⟨rfl, ?_⟩
      rw [HV.out]
      rcases HQ.out with h | h
      · exact .inl h
      · exact .inr ⟨by decide, by rw [vsL_err _ (by decide)]; exact h⟩
    have t1 : (o.kind != 2) = false := by rw [hk]; rfl
    by_cases hemp : o.ents = [] ∧ pr ≠ ⟨#[]⟩
    case pos =>
      have HV := Lib.hid (vis_empty (n := n) (pre := pr) hg hk hemp.1 hemp.2)
      have hen : s.en = 0 := by rw [← HEL.out, hemp.1]; rfl
      have t2 := str_emp hemp.2
      have hALL := HALL.out
      rw [HV.out, vsL_err _ (by decide)] at hALL
      have HF := Lib.hid (fail_any m l B0 hz (W.heap.size + 1) ALL pr0 1 J Jx W3 HKY3.out HY.out HJ3.out (by simpa using hALL))
      clear hg hALL hk hemp ho
      rw [hen] at HW3 HK3 ⊢
      clear hen
      gi_wp2_with fail
      rw [HW3.out]
      refine ⟨trivial, (callsIn_wide.2 HF.out).mono ?_⟩
      rintro e W4 ⟨rfl, hq⟩
      have HQ := Lib.hid hq
      clear hq HF
      gi_wp2
      go_ret
      refine .inr ⟨rfl, ?_⟩
      rw [HV.out]
      rcases HQ.out with h | h
      · exact .inl h
      · exact .inr ⟨by decide, by rw [vsL_err _ (by decide)]; exact h⟩
    have HV := Lib.hid (vis_ents (n := n) (pre := pr) hg hk hemp)
    have HAL : Hid (∃ t, pr0 ++ vsL (vsE (vis p n) p pr o.ents) ++ t = ALL) := by have := HALL.out; rw [HV.out] at this; exact this
    have HES := Lib.hid (okO_tree ho hk)
    have hw2 : ((s.en : Int) == 0) = false ∨ (((s.en : Int) == 0) = true ∧ pr.toList.isEmpty = true) := by
      by_cases h1 : s.en = 0
      · refine .inr ⟨by rw [h1]; rfl, ?_⟩
        have h2 : o.ents = [] := List.eq_nil_of_length_eq_zero (by rw [HEL.out]; exact h1)
        by_cases h3 : pr = ⟨#[]⟩
        · rw [h3, ByteArray.toList_eq]; rfl
        · exact absurd ⟨h2, h3⟩ hemp
      · exact .inl (by rw [beq_eq_false_iff_ne]; omega)
    clear hg hemp ho hk
    have HPW : Hid (Sl W3 B 3 A np (flat itC p)) := H0.out.below HBW.out (by omega)
    have HKW : Hid (KpV B0 hz W W3) := KpV.of_below HBW.out
    obtain ⟨es, hes0⟩ : ∃ es, o.ents = es := ⟨_, rfl⟩
    rw [hes0] at HV HAL HES HE3 HEL
    clear hes0
    obtain ⟨eA, en, ec, pA, pn, pc⟩ := s
    simp only at HE3 HEL HN3 hlen' hw2 HK3 HW3 ⊢
    rcases hw2 with t2 | ⟨t2, t3⟩
    all_goals
      gi_wp2_with fail
      rw [HW3.out]
      try clear t3
      clear t2
      gi_loopw [49] (fun i wr => ∃ (j : Nat) (fs : List Fl), i = .int .i64 (j : Int) ∧ j ≤ en ∧ Hid (VisAt (vis p n) p _ es j fs) ∧ Hid (J (pr0 ++ fs.map vok) wr) ∧ Hid (KpV B0 hz W3 wr) ∧ Hid (Sl wr wr.heap.size 4 eA en (flat enC es)) ∧ Hid (NewO wr hz ⟨eA, en, ec, pA, pn, pc⟩)) (fun i _ => en - (intOf i).toNat)
      case atStart => exact ⟨0, [], rfl, Nat.zero_le _, VisAt.start _ _ _ _, (by show J _ _; simpa using HJ3.out), KpV.refl _ _ _, HE3.out, HN3.out⟩
      case round =>
        obtain ⟨j, fs, rfl, hj, hV, hJr, hKp, hSl, hNw⟩ := hrel
        have zr := hKp.out.size
        have HKr := Lib.hid (hKp.out.bk (by omega) (by decide) HKY3.out)
        have HPr := Lib.hid (hKp.out.sl HPW.out hB (by omega))
        by_cases hlt : j < en
        · obtain ⟨b, off, e, rfl, hbB, he, y0, y1, y2, y3⟩ := hSl.out.en hlt
          have hlz : (j : Int) < (en : Int) := by omega
          have HE := Lib.hid he
          have hnm := (name_len (HES.out.all e (List.mem_of_getElem? he)).nm)
          clear he
          obtain ⟨nm, dir, ⟨g1, g2⟩⟩ := e
          simp only at y0 y1 y2 y3 hnm
          obtain ⟨We, hWe⟩ : ∃ We, wr.alloc (.cells #[.string nm, .bool dir, .int .u64 g1, .int .u64 g2] 102) = We := ⟨_, rfl⟩
          have HBe : Hid (Below wr.heap.size wr We) := by rw [← hWe]; exact (Below.refl _ wr).alloc (Nat.le_refl _) _
          have HKe : Hid (Bk We wr.heap.size 102 #[.string nm, .bool dir, .int .u64 g1, .int .u64 g2]) := by rw [← hWe]; exact Bk.new wr _ _
          have HJe : Hid (J (pr0 ++ fs.map vok) We) := HJ.out _ _ _ hJr.out HBe.out
          have HKYe := Lib.hid (HKr.out.below HBe.out HKr.out.lt)
          have HPe := Lib.hid (HPr.out.below HBe.out (by omega))
          have HSe := Lib.hid ((hSl.out.below HBe.out (Nat.le_refl _)).more HBe.out.size)
          have HKPe : Hid (KpV B0 hz W3 We) := hKp.out.trans (KpV.of_below HBe.out)
          have HNe : Hid (NewO We hz ⟨some ⟨b, off, none⟩, en, ec, pA, pn, pc⟩) := ((KpV.of_below (B0 := B0) (hz := hz) HBe.out).ents hNw.out hSl.out).2
          have HWe := Lib.hid hWe
          have ze : wr.heap.size < We.heap.size := HKe.out.lt
          have hap : ¬ (9223372036854775807 < pr.size + nm.size) := by omega
          obtain ⟨path, hpath⟩ : ∃ path, pr ++ nm = path := ⟨_, rfl⟩
          have hpsz : path.size = pr.size + nm.size := by rw [← hpath]; exact ByteArray.size_append
          have yb := HKr.out.cell 0
          simp at yb
          clear hWe hKp hJr hSl hNw HKr HPr
          by_cases hfar : 100 < path.size
          · have hfz : (100 : Int) < (path.size : Int) := by omega
            have HA := Lib.hid (vsA_err hV.out HE.out (vsE_far (by rw [hpath]; exact hfar)) (by decide) HAL.out)
            obtain ⟨k0, k1, k2, k3⟩ := HKe.out.four
            have HF := Lib.hid (fail_any m l B0 hz (W.heap.size + 1) ALL (pr0 ++ fs.map vok) 4 J Jx We HKYe.out HY.out HJe.out HA.out.1)
            clear hfar
            gi_wp2_with fail
            rw [HWe.out]
            gi_wp2_with fail
            refine ⟨trivial, (callsIn_wide.2 HF.out).mono ?_⟩
            rintro e W9 ⟨rfl, hq⟩
            have HQ := Lib.hid hq
            clear hq HF
            gi_wp2
            go_ret
            refine .inr ⟨rfl, ?_⟩
            rw [HV.out]
            rcases HQ.out with h | h
            · exact .inl h
            · exact .inr ⟨HA.out.2.1, by rw [← HA.out.2.2]; exact h⟩
          have hfz : ¬ (100 : Int) < (path.size : Int) := by omega
          have hfar' : ¬ 100 < (pr ++ nm).size := by rw [hpath]; exact hfar
          obtain ⟨k0, k1, k2, k3⟩ := HKe.out.four
          have hpz : path.size ≤ 100 := by omega
          cases dir with
          | true =>
            have HD := Lib.hid (vsA_dir hV.out HE.out hfar' rfl HAL.out)
            simp only [hpath] at HD
            have hap2 : ¬ (9223372036854775807 < path.size + 1) := by omega
            obtain ⟨sub, hsub⟩ : ∃ sub, path ++ slB = sub := ⟨_, rfl⟩
            have hsub2 : path ++ ⟨#[47]⟩ = sub := hsub
            have hssz : sub.size = path.size + 1 := by rw [← hsub]; exact ByteArray.size_append
            rw [hsub] at HD
            have HC := Lib.hid (IH.out p (g1, g2) sub A np cp B B0 hz l m ALL (pr0 ++ fs.map vok) J Jx We HP.out HPe.out hB hB0 (by omega) hnp (by omega) (by omega) HD.out.1 HJ.out HY.out HJe.out)
            simp only [digV] at HC
            have y0' : (wr.alloc (.cells #[.string nm, .bool true, .int .u64 g1, .int .u64 g2] 102)).cell? ⟨W.heap.size + 1, 0, none⟩ = some (.func (.yield l) #[] #[]) := by rw [HWe.out]; exact HKYe.out.cell 0
            clear hfar hfar' hsub
            gi_wp2_with fail
            rw [HWe.out]
            gi_wp2_with fail
            refine ⟨trivial, (callsIn_wide.2 HC.out).mono ?_⟩
            rintro e W9 (⟨rfl, hr0, hJ9, hK9⟩ | ⟨rfl, hq⟩)
            · have HV9 := Lib.hid (HD.out.2.1 hr0)
              have HJ9 : Hid (J (pr0 ++ (fs ++ (vis p n (g1, g2) sub).1).map vok) W9) := by show J _ _; rw [List.map_append, ← List.append_assoc]; exact hJ9
              have HK9 : Hid (KpV B0 hz W3 W9) := HKPe.out.trans hK9
              have HS9 := Lib.hid (hK9.ents HNe.out HSe.out)
              clear hr0 hJ9 hK9 HC k0 k1 k2 k3 y0' y0 y1 y2 y3
              gi_wp2
              go_roundw
              case rel => exact ⟨j + 1, _, by go_num, hlt, HV9.out, HJ9.out, HK9.out, HS9.out.1, HS9.out.2⟩
              case measure => simp [intOf]; omega
            · have HQ := Lib.hid hq
              clear hq HC k0 k1 k2 k3 y0' y0 y1 y2 y3
              gi_wp2
              go_ret
              refine .inr ⟨rfl, ?_⟩
              rw [HV.out]
              rcases HQ.out with h | ⟨h, h2⟩
              · exact .inl h
              · obtain ⟨h3, h4⟩ := HD.out.2.2 h
                exact .inr ⟨h3, by rw [← h4]; exact h2⟩
          | false =>
            have HC := Lib.hid (tdata_any A np cp B p (g1, g2) We HPe.out (by omega) hnp HP.out)
            unfold DatE at HC
            have hway := ent_ways (g := vis p n) p pr ⟨nm, false, (g1, g2)⟩ (es.drop (j + 1)) hfar' rfl
            simp only at hway
            obtain ⟨⟨ds, dz⟩, hdd⟩ : ∃ r, datP p (g1, g2) = r := ⟨_, rfl⟩
            rw [hdd] at HC hway
            simp only [digV] at HC hway
            have hway' := Lib.hid hway
            have HFA := Lib.hid hfar'
            have HPT := Lib.hid hpath
            clear hfar hfar' hdd hway
            gi_wp2_with fail
            rw [HWe.out]
            gi_wp2_with fail
            refine ⟨trivial, (callsIn_wide.2 HC.out).mono ?_⟩
            rintro e W9 ⟨rfl, hb9⟩
            have HJ9 : Hid (J (pr0 ++ fs.map vok) W9) := HJ.out _ _ _ HJe.out hb9
            have HKY9 := Lib.hid (HKYe.out.below hb9 HKYe.out.lt)
            have HK9 : Hid (KpV B0 hz W3 W9) := HKPe.out.trans (KpV.of_below hb9)
            have HS9 := Lib.hid ((KpV.of_below (B0 := B0) (hz := hz) hb9).ents HNe.out HSe.out)
            have y9 := HKY9.out.cell 0
            simp at y9
            have z9 := hb9.size
            clear hb9 HC k0 k1 k2 k3 y0 y1 y2 y3
            rcases hway'.out with ⟨o', ho', hk', hoz⟩ | ⟨hnz, hvs⟩
            · simp only [Prod.mk.injEq] at hoz
              obtain ⟨rfl, rfl⟩ := hoz
              have HA := Lib.hid (vsA_file hV.out HE.out HFA.out rfl ho' hk' HAL.out)
              simp only [HPT.out] at HA
              obtain ⟨fn, tmps, assign, body, hy, hR⟩ := HY.out _ _ W9 HA.out.1 HJ9.out
              simp only [vdA] at hy
              have HR := Lib.hid (RoundIn.wide (m := 5) hR)
              clear hR hway' ho' hk'
              gi_wp2
              refine HR.out.mono ?_
              rintro e W10 (⟨rfl, hJ10, hK10⟩ | ⟨rfl, hJ10⟩)
              · have HJ10 : Hid (J (pr0 ++ (fs ++ [(path, o'.data)]).map vok) W10) := by show J _ _; rw [List.map_append, ← List.append_assoc]; exact hJ10
                have HK10 : Hid (KpV B0 hz W3 W10) := HK9.out.trans hK10
                have HS10 := Lib.hid (hK10.ents HS9.out.2 HS9.out.1)
                clear hJ10 hK10 HR hy y9
                gi_wp2
                go_roundw
                case rel => exact ⟨j + 1, _, by go_num, hlt, HA.out.2, HJ10.out, HK10.out, HS10.out.1, HS10.out.2⟩
                case measure => simp [intOf]; omega
              · have HJ10 := Lib.hid hJ10
                clear hJ10 HR hy y9
                gi_wp2
                go_ret
                obtain ⟨t, ht⟩ := HA.out.1
                exact .inr ⟨rfl, .inl ⟨_, t, ht, HJ10.out⟩⟩
            · have HA := Lib.hid (vsA_err hV.out HE.out hvs hnz HAL.out)
              have t3 : (dz != 0) = true := by rw [bne_iff_ne]; exact hnz
              clear hway' hnz hvs
              have HF := Lib.hid (fail_any m l B0 hz (W.heap.size + 1) ALL (pr0 ++ fs.map vok) dz J Jx W9 HKY9.out HY.out HJ9.out HA.out.1)
              gi_wp2_with fail
              refine ⟨trivial, (callsIn_wide.2 HF.out).mono ?_⟩
              rintro e W9 ⟨rfl, hq⟩
              have HQ := Lib.hid hq
              clear hq HF
              gi_wp2
              go_ret
              refine .inr ⟨rfl, ?_⟩
              rw [HV.out]
              rcases HQ.out with h | h
              · exact .inl h
              · exact .inr ⟨HA.out.2.1, by rw [← HA.out.2.2]; exact h⟩
        · have hlz : ¬ (j : Int) < (en : Int) := by omega
          have HA := Lib.hid (vsA_done hV.out (by rw [HEL.out]; omega))
          have HKF : Hid (KpV B0 hz W wr) := HKW.out.trans hKp.out
          have HJF : Hid (J (pr0 ++ (vsE (vis p n) p pr es).1.map vok) wr) := by show J _ _; rw [← HA.out.2]; exact hJr.out
          clear hKp hJr hSl hNw HKr HPr
          gi_wp2
          go_ret
          refine .inl ⟨rfl, ?_, ?_, HKF.out⟩
          · rw [HV.out]; exact HA.out.1
          · rw [HV.out]; exact HJF.out
theorem visit_all : ∀ n, VisC n
  | 0 => by
    intro p d pr A np cp B B0 hz l m ALL pr0 J Jx W hp h0 hB hB0 hzW hnp hpr hn
    omega
  | n + 1 => visit_core n (visit_all n)
end Go.Proofs.YtmdhlkkekidknaaGreatDoor
