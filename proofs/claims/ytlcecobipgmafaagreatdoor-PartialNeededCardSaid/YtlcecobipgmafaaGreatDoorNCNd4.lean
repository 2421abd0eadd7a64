/-
  Lemmas of the card.
-/
import Derived.Shelf.SlIter.Stops
import Derived.Ground.GgzProg
import Derived.Ground.NamesProg
import Derived.Test.YtlcecobipgmafaaGreatDoorProg
import Derived.Laws.BitsLemmas
import Derived.IntWalk
import Derived.RegionTactic
import Derived.BigRegion
import Derived.Deep.QuietTactic
import Derived.BigQuiet
import Derived.Deep.CutRange
import Derived.Test.YtlcecobipgmafaaGreatDoorNCNd3
import Derived.Test.YtlcecobipgmafaaGreatDoorNCNd2
import Derived.Test.YtlcecobipgmafaaGreatDoorNCNd1
set_option maxRecDepth 100000
set_option maxHeartbeats 4000000
namespace Go.Proofs.YtlcecobipgmafaaGreatDoor
open Go.RowKit
theorem wQ : ∀ {p : Option ByteArray} {fs : List Fl}, dB p fs = 0 -> (∀ f ∈ fs, upB p f.1 = true) /\ AscF fs /\ ∀ f ∈ fs, cZ f.1 = true
 | p, [], _ => ⟨fun f h => (by cases h), List.Pairwise.nil, fun f h => (by cases h)⟩
 | p, f :: r, h => by
   unfold dB at h; by_cases h1 : cZ f.1 = true
   . rw [if_pos h1] at h
     by_cases h2 : upB p f.1 = true
     . rw [if_pos h2] at h
       obtain ⟨i1, i2, i3⟩ := wQ h; refine ⟨fun g hg => ?_, List.pairwise_cons.2 ⟨fun g hg => i1 g hg, i2⟩, fun g hg => ?_⟩
       . rcases List.mem_cons.1 hg with rfl | hg
         . exact h2
         . cases p with
           | none => rfl
           | some q => exact iy h2 (i1 g hg)
       . rcases List.mem_cons.1 hg with rfl | hg
         . exact h1
         . exact i3 g hg
     . rw [if_neg h2] at h; cases h
   . rw [if_neg h1] at h; cases h
theorem uE : ∀ {p : Option ByteArray} {fs : List Fl}, (∀ f ∈ fs, upB p f.1 = true) -> AscF fs -> (∀ f ∈ fs, cZ f.1 = true) -> dB p fs = 0
 | p, [], _, _, _ => rfl
 | p, f :: r, h1, h2, h3 => by
   unfold dB; rw [if_pos (h3 f (by simp)), if_pos (h1 f (by simp))]; exact uE (fun g hg => h2.head hg) h2.tail (fun g hg => h3 g (by simp [hg]))
theorem FY {fs : List Fl} (h : TckR fs 0) (hd : ∀ f ∈ fs, f.2.size <= 60000) : OkL fs /\ AscF fs := by
 rcases h with ⟨_, h⟩ | ⟨_, h1, h2⟩ | ⟨h1, h2, h3⟩
 . cases h
 . exact absurd h2.symm h1
 . obtain ⟨_, h4, h5⟩ := wQ h2
   rcases h3 with ⟨_, h⟩ | ⟨h3, _⟩
   . cases h
   . refine ⟨⟨h5, hd, h1, uB h4, fun f hf g hg => ?_⟩, h4⟩
     cases hb : fT f.1 g.1 with
     | false => rfl
     | true => exact absurd (DL hf hg hb) h3
theorem Ep {fs : List Fl} (h : OkL fs) (ha : AscF fs) : TckR fs 0 :=
 .inr (.inr ⟨h.few, uE (fun _ _ => rfl) ha h.path, .inr ⟨EE h.nob, rfl⟩⟩)
end Go.Proofs.YtlcecobipgmafaaGreatDoor
namespace Go.Proofs
open Go.Shelf
def Tryz.keysF_ren : Go.Shelf.Ren := ⟨fun | 7 => 108 | 10 => 135 | n => n, fun | 23 => 166 | 26 => 9 | 3 => 94 | 28 => 172 | 0 => 0 | 27 => 171 | 33 => 163 | 4 => 4 | n => n, fun | n => n⟩
theorem Tryz.keysF : Go.Proofs.SlLaysZ.n7 Tryz.prog Tryz.keysF_ren := {
 mixed := by kernel_rfl
 f7 := ⟨Tryz.f108.name, by decide, Tryz.func108.trans (congrArg some (by kernel_rfl))⟩
 f10 := ⟨Tryz.f135.name, by decide, Tryz.func135.trans (congrArg some (by kernel_rfl))⟩
 t0 := Tryz.underlying0
 a0 := Tryz.isAgg0
 z0 := Tryz.sizeOf0
 v0 := Tryz.zeroValue0
 t4 := Tryz.underlying4
 a4 := Tryz.isAgg4
 z4 := Tryz.sizeOf4
 v4 := Tryz.zeroValue4
 t23 := Tryz.underlying166
 a23 := Tryz.isAgg166
 z23 := Tryz.sizeOf166
 v23 := Tryz.zeroValue166
 t26 := Tryz.underlying9
 a26 := Tryz.isAgg9
 z26 := Tryz.sizeOf9
 v26 := Tryz.zeroValue9
 t27 := Tryz.underlying171
 a27 := Tryz.isAgg171
 z27 := Tryz.sizeOf171
 v27 := Tryz.zeroValue171
 t28 := Tryz.underlying172
 a28 := Tryz.isAgg172
 z28 := Tryz.sizeOf172
 v28 := Tryz.zeroValue172
 t33 := Tryz.underlying163
 a33 := Tryz.isAgg163
 z33 := Tryz.sizeOf163
 v33 := Tryz.zeroValue163 }
def Tryz.keysB_ren : Go.Shelf.Ren := ⟨fun | 7 => 110 | 10 => 136 | n => n, fun | 23 => 165 | 26 => 9 | 3 => 95 | 28 => 172 | 0 => 0 | 27 => 171 | 33 => 163 | 4 => 4 | n => n, fun | n => n⟩
theorem Tryz.keysB : Go.Proofs.SlLaysZ.n7 Tryz.prog Tryz.keysB_ren := {
 mixed := by kernel_rfl
 f7 := ⟨Tryz.f110.name, by decide, Tryz.func110.trans (congrArg some (by kernel_rfl))⟩
 f10 := ⟨Tryz.f136.name, by decide, Tryz.func136.trans (congrArg some (by kernel_rfl))⟩
 t0 := Tryz.underlying0
 a0 := Tryz.isAgg0
 z0 := Tryz.sizeOf0
 v0 := Tryz.zeroValue0
 t4 := Tryz.underlying4
 a4 := Tryz.isAgg4
 z4 := Tryz.sizeOf4
 v4 := Tryz.zeroValue4
 t23 := Tryz.underlying165
 a23 := Tryz.isAgg165
 z23 := Tryz.sizeOf165
 v23 := Tryz.zeroValue165
 t26 := Tryz.underlying9
 a26 := Tryz.isAgg9
 z26 := Tryz.sizeOf9
 v26 := Tryz.zeroValue9
 t27 := Tryz.underlying171
 a27 := Tryz.isAgg171
 z27 := Tryz.sizeOf171
 v27 := Tryz.zeroValue171
 t28 := Tryz.underlying172
 a28 := Tryz.isAgg172
 z28 := Tryz.sizeOf172
 v28 := Tryz.zeroValue172
 t33 := Tryz.underlying163
 a33 := Tryz.isAgg163
 z33 := Tryz.sizeOf163
 v33 := Tryz.zeroValue163 }
end Go.Proofs
namespace Go.Proofs.YtlcecobipgmafaaGreatDoor
open Go.RowKit
section
open Go.Maps
attribute [local go_sem] Oper.semAt_some
theorem jO {W : World} {base size n : Nat} {e : TypeId} {v : Value} {xs : List Value} (h : W.ownsRow base e size v n xs) {k : Nat} (hk : v.ownBlock = some k) : base <= k /\ ∃ cur, W.heap[k]? = some (.cells cur e (0, 0)) := by
 rcases h.2 with ⟨rfl, _⟩ | ⟨g, cap, cur, rfl, h1, h2, _⟩
 . cases hk
 . cases hk; exact ⟨h1, cur, h2⟩
end
section
open Go.RowKit Go.Maps Go.Sort Go.Shelf
attribute [local go_sem] Oper.semAt_some
theorem AP {w : World} {P : Program} {k : TypeId} {b N : Nat} {D : DataW Value} (hown : w.ownsMap P k dI b N D) (hk : P.underlying k = some .string) : (strKeys D).Nodup := by
 obtain ⟨es, hD, hpw, _⟩ := hown.entries (string_keyed hk); obtain ⟨es', hD', hko⟩ := hown.keysOf; obtain rfl : es = es' := by rw [hD] at hD'; simpa using hD'
 subst hD; show (es.map fun p => strOf p.1).Nodup; refine List.pairwise_map.2 (hpw.imp_of_mem fun {p q} hp' hq' hne e => hne ?_); obtain ⟨v, hv⟩ := hko p hp'; obtain ⟨u, hu⟩ := hko q hq'; obtain ⟨a, _, ha, _⟩ := Maps.keyOf_str hk hv; obtain ⟨b, _, hb, _⟩ := Maps.keyOf_str hk hu; rw [ha, hb] at e ⊢; exact congrArg _ e
structure gH (g : ByteArray -> Option Value) (N : Nat) (ks : List ByteArray) : Prop where
 nod : ks.Nodup
 mem : ∀ x, x ∈ ks ↔ (g x).isSome = true
 few : ks.length <= N
theorem Rm.keys {w : World} {P : Program} {k : TypeId} {b N : Nat} {g : ByteArray -> Option Value} (h : Rm w P k b N g) (hk : P.underlying k = some .string) :
  ∃ D : DataW Value, w.ownsMap P k dI b N D /\ Maps.size D <= N /\ ∀ ss : List (List UInt8), ss.Perm (strKeys D) /\ (∀ x, x ∈ ss ↔ Maps.has D (.string x) = true) -> gH g N (ss.map ub) := by
 obtain ⟨D, h1, h2⟩ := h; have hsz : Maps.size D <= N := h1.size_le; refine ⟨D, h1, hsz, fun ss hs => ?_⟩; have hnd := (hs.1.nodup_iff).2 (AP h1 hk); refine ⟨?_, fun x => ?_, ?_⟩
 . unfold List.Nodup
   rw [List.pairwise_map]; exact hnd.imp (fun hne e => hne (by have := congrArg bl e; simpa [bl, ub] using this))
 . rw [<- (h2 x).1, <- hs.2, List.mem_map]
   constructor
   . rintro ⟨l, hl, rfl⟩; simpa [ub] using hl
   . intro h; exact ⟨bl x, h, by rw [jV]⟩
 . rw [List.length_map, hs.1.length_eq]
   obtain ⟨es, rfl, _⟩ := h1.keysOf; have : (strKeys (DataW.map es)).length = Maps.size (DataW.map es) := by simp [strKeys, Maps.size]
   omega
theorem yJ {w : World} {base size n b : Nat} {e t : TypeId} {v u : Value} {xs : List Value} (h : w.ownsRow base e size v n xs) (hb : w.heap[b]? = some (.cells #[u] t (0, 0))) (x : Value) (hne : e ≠ t := by decide) : (w.setCell ⟨b, 0, none⟩ x).ownsRow base e size v n xs := by
 refine h.kept (row := some b) ⟨rfl, rfl, rfl, by simp, fun k _ hk => Below.heap_setCell _ _ _ k (fun e => hk (by rw [e]))⟩ ?_; cases hv : v.ownBlock with
 | none => exact .inl rfl
 | some k =>
   refine .inr fun he => ?_; obtain ⟨_, cur, hc⟩ := jO h hv; cases he
   rw [hb] at hc; cases hc
   exact hne rfl
theorem xm (x : List UInt8) : encStr x = .string (ub x) := rfl
theorem sS (gf : Nat) (lb : Array Value) (eg : ∀ args w, (callFunc gf args).run Tryz.prog w = .ok (.enter gf args) w) (S Sp : List (List UInt8) -> Prop) (N : Nat) (A : OA) (n c : Nat) (l0 : List ByteArray) (w0 w : World)
  (hrow : w.ownsRow w0.heap.size 9 1 (.slice A n c) n (strs l0)) (hbw : Below w0.heap.size w0 w) (hn : n + N <= 1000000) (hseq : SeqStops Fence.wide 5 Tryz.prog gf lb encStr S Sp N w) :
  Calls Tryz.prog 109 #[.slice A n c, .func (.func gf) #[] lb] w fun e w' =>
   ∃ A' c' ss, e = .returned (.slice A' (n + ss.length) c') /\ S ss /\ w'.ownsRow w0.heap.size 9 1 (.slice A' (n + ss.length) c') (n + ss.length) (strs (l0 ++ ss.map ub)) /\ Below w0.heap.size w0 w' := by
 refine (callsIn_wide (n := 6)).1 ?_; have hf1 : Fence.wide.fn gf := trivial; refine callsIn_of_wp_marks Tryz.func109 rfl trivial ?_ rfl; simp only [Tryz.ntmps109, List.size_toArray, List.length_cons, List.length_nil, Nat.reduceAdd, Nat.reduceSub, Array.replicate_succ, Array.replicate_zero, List.push_toArray, List.append_toArray, List.nil_append, List.cons_append]; have HROW := ah hrow; have HBW := ah hbw; have HSEQ := ah hseq; have zbw := hbw.size; clear hrow hbw hseq
 gi_wp2
 obtain ⟨W2, hW2⟩ : ∃ W2, w.alloc (.cells #[.slice A n c] 169) = W2 := ⟨_, rfl⟩
 have hb2 : Below w0.heap.size w0 W2 := by rw [<- hW2]; exact HBW.out.alloc zbw _
 have hb2' : Below w.heap.size w W2 := by rw [<- hW2]; exact (Below.refl _ w).alloc ai _
 have g1 : W2.heap[w.heap.size]? = some (.cells #[.slice A n c] 169 (0, 0)) := by rw [<- hW2]; exact World.alloc_heap_new w _
 have hy2 : W2.heap.size = w.heap.size + 1 := by rw [<- hW2]; simp
 have hr2 : W2.ownsRow w0.heap.size 9 1 (.slice A n c) n (strs l0) := by
  rw [<- hW2]; exact HROW.out.kept (World.grownBy_alloc w _ none) (by cases hv : (Value.slice A n c).ownBlock with | none => exact .inl rfl | some k => exact .inr (by simp))
 rw [hW2]; clear hW2; refine wpIn_rangeFunc_ownF (α := List UInt8) (F := Fence.wide) (n := 6) rfl (by omega) (gf := gf) (lb := lb) rfl trivial eg (encs := fun x => #[encStr x]) (Kp := KeepsWalks) (S := S) (Sp := Sp) (N := N) (w0 := w) HSEQ.out (fun h k => walksK_t h k) (fun W l o o' h1 h2 h3 h4 => walksK_b (w := W2) W l o o' h1 h2 h3 h4) hb2' (fun _ => rfl)
  (fun pre W => ∃ Aq cq, W.heap[w.heap.size]? = some (.cells #[.slice Aq (n + pre.length) cq] 169 (0, 0)) /\ W.ownsRow w0.heap.size 9 1 (.slice Aq (n + pre.length) cq) (n + pre.length) (strs (l0 ++ pre.map ub)) /\ Below w0.heap.size w0 W)
  (fun _ _ _ => False)
  ?hI ?hIx ⟨A, c, g1, by simpa using hr2, hb2⟩
  (fun x => { tmps := #[.slice A n c, .func (.func gf) #[] lb, .pointer (some ⟨w.heap.size, 0, none⟩), undef, .slice none 0 0, encStr x, .func (.func gf) #[] lb, encStr x, undef, undef, undef, undef, undef], defers := [] }) ?assign ?body ?done ?stop
 case hI =>
  rintro pre A1 C row ⟨Aq, cq, h0, h1, h2⟩ hg hr; refine ⟨Aq, cq, nU h0 hg (fun e => ?_), h1.kept hg ?_, h2.grown hg h2.size (fun k e => ?_)⟩
  . have := (hr _ e.symm).1; omega
  . cases hv : (Value.slice Aq (n + pre.length) cq).ownBlock with
    | none => exact .inl rfl
    | some k =>
      refine .inr fun e => ?_; obtain ⟨_, cur, hcur⟩ := jO h1 hv; obtain ⟨_, o, ho, hc⟩ := hr _ e.symm; rw [hcur] at ho; cases ho; cases hc
  . have := (hr _ e).1; omega
 case hIx => rintro c pre A1 C row hf _ _; exact hf
 case stop => rintro D c pre W hD hS hf hK; exact hf.elim
 case assign =>
  intro l x W K hK; have HKK := ah hK; clear hK; simp only [xm]
  gi_wp2
  exact HKK.out
 case body =>
  rintro l pre y W ⟨Aq, cq, h0, h1, h2⟩ hlen; have c0 := cell_of_one h0; have f0 := free_of_one h0; have H0 := ah h0; have H1 := ah h1; have H2 := ah h2; have hzW : w.heap.size < W.heap.size := (Array.getElem?_eq_some_iff.1 h0).1; have zW0 := h2.size; obtain ⟨i0, hi, hz0, hz1', hz2'⟩ := info_parts ET; have Hi := ah hi; have Hz0 := ah hz0; have Hz1 := ah hz1'; have Hz2 := ah hz2'; clear h0 h1 h2 g1 hb2 hb2' hr2 hi hz0 hz1' hz2'; simp only [xm]
  gi_wp2_with (gi_at_builtin; refine aI ?_)
  refine aC ?_; refine mY (base := w0.heap.size) (size := 1) rfl (.tmp 8) (.tmp 10) 169 rfl 9 i0 _ 16 Tryz.underlying169 Hi.out Hz0.out Hz1.out Hz2.out rfl (by decide) (.slice Aq (n + pre.length) cq) (n + pre.length) (strs (l0 ++ pre.map ub)) rfl ?own (W.heap.size + 1) _ 1 _ [.string (ub y)] rfl ?nw (by simp [Value.oneCell']) ?l1 ?l2 ?l3 ?_
  case own => exact H1.out.kept (World.grownBy_alloc W _ none) (by cases hv : (Value.slice Aq (n + pre.length) cq).ownBlock with | none => exact .inl rfl | some k => exact .inr (by simp))
  case nw => exact ⟨rfl, fun _ => ⟨W.heap.size, 0, rfl, Nat.lt_succ_self _, fun j u hu => by have := Dq W 9 (ub y) j u hu; rwa [Addr.add_lit] at this⟩⟩
  case l1 => unfold maxLen; omega
  case l2 => omega
  case l3 => simp; omega
  intro A4 c4 w4 ho4 hg4 hc41 hc42; have HO4 : Hid (w4.ownsRow w0.heap.size 9 1 (.slice A4 (n + (pre.length + 1)) c4) (n + (pre.length + 1)) (strs (l0 ++ (pre ++ [y]).map ub))) := by
   show World.ownsRow _ _ _ _ _ _ _; have e : strs (l0 ++ (pre ++ [y]).map ub) = strs (l0 ++ pre.map ub) ++ [.string (ub y)] := by simp [strs]
   rw [e]; exact ho4
  have HGE : Hid (∀ k, (Value.slice Aq (n + pre.length) cq).ownBlock = some k -> w0.heap.size <= k /\ ∃ cur, W.heap[k]? = some (.cells cur 9 (0, 0))) := fun k hk => jO H1.out hk; have HNE : Hid (∀ k, (Value.slice Aq (n + pre.length) cq).ownBlock = some k -> k ≠ w.heap.size) := fun k hk e => by
   obtain ⟨_, cur, hc⟩ := HGE.out k hk; rw [e, H0.out] at hc; cases hc
  have HX4 : Hid (w4.heap[w.heap.size]? = some (.cells #[.slice Aq (n + pre.length) cq] 169 (0, 0))) := nU ((Below.heap_alloc W _ _ hzW).trans H0.out) hg4 (fun e => HNE.out _ e.symm rfl); have c4' := cell_of_one HX4.out; have f4' := free_of_one HX4.out; have HB4 : Hid (Below w0.heap.size w0 w4) := (H2.out.alloc zW0 _).grown hg4 (by simp; omega) (fun k hk => (HGE.out k hk).1); have HKO : Hid (KeepsOthers W (w4.setCell ⟨w.heap.size, 0, none⟩ (.slice A4 (n + (pre.length + 1)) c4))) := ((KeepsOthers.alloc W _).trans (KeepsOthers.of_grownBy hg4 (fun j o hj ho => by
   obtain ⟨_, cur, hc⟩ := HGE.out j hj; rw [(Below.heap_alloc W _ j (Array.getElem?_eq_some_iff.1 hc).1).trans hc] at ho; cases ho; rfl))).trans (KeepsOthers.setCell _ _ _)
  have HO5 : Hid ((w4.setCell ⟨w.heap.size, 0, none⟩ (.slice A4 (n + (pre.length + 1)) c4)).ownsRow w0.heap.size 9 1 (.slice A4 (n + (pre.length + 1)) c4) (n + (pre.length + 1)) (strs (l0 ++ (pre ++ [y]).map ub))) := yJ HO4.out HX4.out _; have hea : n + pre.length + 1 = n + (pre.length + 1) := by omega
  clear ho4 hg4 c0 f0
  gi_wp2
  refine ⟨HKO.out, HKO.out.walks, A4, c4, ?_, ?_, ?_⟩
  . rw [List.length_append]; exact one_setCell HX4.out
  . rw [List.length_append]; exact HO5.out
  . exact HB4.out.setCell (p := ⟨w.heap.size, 0, none⟩) zbw _
 case done =>
  rintro D xs W hD hS ⟨Aq, cq, h0, h1, h2⟩ hK; have c0 := cell_of_one h0; have H1 := ah h1; have HK := ah hK; have H2 := ah h2; have HS := ah hS; clear h0 h1 h2 hK hS g1 hb2 hb2' hr2
  gi_wp2
  refine ⟨by simp, .inl ⟨_, _, rfl, run_takeDeferred HK.out, ?_⟩⟩; refine ⟨_, results_tmp rfl _ _ _, Aq, cq, xs, rfl, HS.out, ?_, ?_⟩
  . exact H1.out.kept (grownBy_putObj' _ _ _) (by
      cases hv : (Value.slice Aq (n + xs.length) cq).ownBlock with
      | none => exact .inl rfl
      | some k =>
        refine .inr fun e => ?_; cases e
        obtain ⟨_, cur, hc⟩ := jO H1.out hv; rw [HK.out] at hc; cases hc)
  . exact H2.out.grown (grownBy_putObj' _ _ _) H2.out.size (fun k e => by cases e; omega)
theorem Bu (b : Nat) (w : World) : Calls Tryz.prog 108 #[.map (some b)] w fun e w' => e = .returned (.func (.func 135) #[] #[.pointer (some ⟨w.heap.size, 0, none⟩)]) /\ w' = w.alloc (.cells #[.map (some b)] 166) := by
 go_enter Tryz.func108, Tryz.ntmps108
 go_wp2_with fail; go_ret
 exact ⟨rfl, rfl⟩
theorem BM {Bm b N : Nat} {g : ByteArray -> Option Value} {w : World} (hM : Rm w Tryz.prog 9 b N g) (hc : w.cell? ⟨Bm, 0, none⟩ = some (.map (some b))) (hB : Bm < w.heap.size) :
  ∃ S Sp, SeqStops Fence.wide 5 Tryz.prog 135 #[.pointer (some ⟨Bm, 0, none⟩)] encStr S Sp N w /\ ∀ ss, S ss -> gH g N (ss.map ub) := by
 obtain ⟨D, h1, h2, h3⟩ := hM.keys Tryz.underlying9; refine ⟨_, _, fun l J Jx W hW hJ hJx hY h0 => AnyZ.keys_stops (ρ := Tryz.keysF_ren) { Tryz.keysF with } Fence.wide 5 trivial rfl (by omega) Bm b N D w hB hc h1 l J Jx W hW hJ hJx (fun pre x W1 hj hl => hY pre x W1 hj (Nat.lt_of_lt_of_le hl h2)) h0, h3⟩
theorem FR : ∀ args w, (callFunc 135 args).run Tryz.prog w = .ok (.enter 135 args) w := enters_of Tryz.func135 (by kernel_rfl) rfl
def F9 (g : ByteArray -> Option Value) (N n : Nat) (l0 : List ByteArray) (w0 : World) (e : Ending) (w' : World) : Prop :=
 ∃ A c ks, e = .returned (.slice A (n + ks.length) c) /\ gH g N ks /\ w'.ownsRow w0.heap.size 9 1 (.slice A (n + ks.length) c) (n + ks.length) (strs (l0 ++ ks)) /\ Below w0.heap.size w0 w'
theorem CJ (Bm b N : Nat) (g : ByteArray -> Option Value) (A : OA) (n c : Nat) (l0 : List ByteArray) (w0 w : World) (hM : Rm w Tryz.prog 9 b N g) (hc : w.cell? ⟨Bm, 0, none⟩ = some (.map (some b))) (hB : Bm < w.heap.size)
  (hrow : w.ownsRow w0.heap.size 9 1 (.slice A n c) n (strs l0)) (hbw : Below w0.heap.size w0 w) (hn : n + N <= 1000000) :
  Calls Tryz.prog 109 #[.slice A n c, .func (.func 135) #[] #[.pointer (some ⟨Bm, 0, none⟩)]] w (F9 g N n l0 w0) := by
 obtain ⟨S, Sp, h1, h2⟩ := BM hM hc hB; refine (sS _ _ FR S Sp N A n c l0 w0 w hrow hbw hn h1).mono ?_; rintro e w' ⟨A', c', ss, rfl, hS, hr, hb⟩; exact ⟨A', c', ss.map ub, by rw [List.length_map], h2 ss hS, by rw [List.length_map]; exact hr, hb⟩
theorem BV (b : Nat) (w : World) : Calls Tryz.prog 110 #[.map (some b)] w fun e w' => e = .returned (.func (.func 136) #[] #[.pointer (some ⟨w.heap.size, 0, none⟩)]) /\ w' = w.alloc (.cells #[.map (some b)] 165) := by
 go_enter Tryz.func110, Tryz.ntmps110
 go_wp2_with fail; go_ret
 exact ⟨rfl, rfl⟩
theorem Bq {Bm b N : Nat} {g : ByteArray -> Option Value} {w : World} (hM : Rm w Tryz.prog 9 b N g) (hc : w.cell? ⟨Bm, 0, none⟩ = some (.map (some b))) (hB : Bm < w.heap.size) :
  ∃ S Sp, SeqStops Fence.wide 5 Tryz.prog 136 #[.pointer (some ⟨Bm, 0, none⟩)] encStr S Sp N w /\ ∀ ss, S ss -> gH g N (ss.map ub) := by
 obtain ⟨D, h1, h2, h3⟩ := hM.keys Tryz.underlying9; refine ⟨_, _, fun l J Jx W hW hJ hJx hY h0 => AnyZ.keys_stops (ρ := Tryz.keysB_ren) { Tryz.keysB with } Fence.wide 5 trivial rfl (by omega) Bm b N D w hB hc h1 l J Jx W hW hJ hJx (fun pre x W1 hj hl => hY pre x W1 hj (Nat.lt_of_lt_of_le hl h2)) h0, h3⟩
theorem FQ : ∀ args w, (callFunc 136 args).run Tryz.prog w = .ok (.enter 136 args) w := enters_of Tryz.func136 (by kernel_rfl) rfl
def F3 (g : ByteArray -> Option Value) (N n : Nat) (l0 : List ByteArray) (w0 : World) (e : Ending) (w' : World) : Prop :=
 ∃ A c ks, e = .returned (.slice A (n + ks.length) c) /\ gH g N ks /\ w'.ownsRow w0.heap.size 9 1 (.slice A (n + ks.length) c) (n + ks.length) (strs (l0 ++ ks)) /\ Below w0.heap.size w0 w'
theorem CR (Bm b N : Nat) (g : ByteArray -> Option Value) (A : OA) (n c : Nat) (l0 : List ByteArray) (w0 w : World) (hM : Rm w Tryz.prog 9 b N g) (hc : w.cell? ⟨Bm, 0, none⟩ = some (.map (some b))) (hB : Bm < w.heap.size)
  (hrow : w.ownsRow w0.heap.size 9 1 (.slice A n c) n (strs l0)) (hbw : Below w0.heap.size w0 w) (hn : n + N <= 1000000) :
  Calls Tryz.prog 109 #[.slice A n c, .func (.func 136) #[] #[.pointer (some ⟨Bm, 0, none⟩)]] w (F3 g N n l0 w0) := by
 obtain ⟨S, Sp, h1, h2⟩ := Bq hM hc hB; refine (sS _ _ FQ S Sp N A n c l0 w0 w hrow hbw hn h1).mono ?_; rintro e w' ⟨A', c', ss, rfl, hS, hr, hb⟩; exact ⟨A', c', ss.map ub, by rw [List.length_map], h2 ss hS, by rw [List.length_map]; exact hr, hb⟩
def FP (g : ByteArray -> Option Value) (N : Nat) (w : World) (e : Ending) (w' : World) : Prop :=
 ∃ A c ks, e = .returned (.slice A ks.length c) /\ gH g N ks /\ w'.ownsRow w.heap.size 9 1 (.slice A ks.length c) ks.length (strs ks) /\ Below w.heap.size w w'
theorem Bp (Bm b N : Nat) (g : ByteArray -> Option Value) (w : World) (hM : Rm w Tryz.prog 9 b N g) (hc : w.cell? ⟨Bm, 0, none⟩ = some (.map (some b))) (hB : Bm < w.heap.size) (hn : N <= 1000000) :
  Calls Tryz.prog 107 #[.func (.func 135) #[] #[.pointer (some ⟨Bm, 0, none⟩)]] w (FP g N w) := by
 have HA := ah (CJ Bm b N g none 0 0 [] w w hM hc hB (World.ownsRow_nil _ _ _ _) (Below.refl _ _) (by omega)); clear hM
 go_enter Tryz.func107, Tryz.ntmps107
 go_wp2_with (go_at_call 109; refine HA.out.mono ?_; rintro e w1 ⟨A, c, ks, rfl, h⟩; rw [Nat.zero_add, List.nil_append] at h; have HH := ah h; clear h)
 go_ret
 exact ⟨A, c, ks, rfl, HH.out⟩
end
structure Fgr (w : World) (base : Nat) (e : TypeId) (f : ByteArray -> Value) (L : ByteArray -> List Fl) : Prop where
 own : ∀ i, w.ownsRow base e 2 (f i) (L i).length (flat flC (L i))
 apart : ∀ i j k, (f i).ownBlock = some k -> (f j).ownBlock = some k -> i = j
section
variable {w w' : World} {base : Nat} {e : TypeId} {f : ByteArray -> Value} {L : ByteArray -> List Fl}
theorem Fgr.start (w : World) (base : Nat) (e : TypeId) : Fgr w base e (fun _ => .slice none 0 0) (fun _ => []) :=
 ⟨fun _ => World.ownsRow_nil w base e 2, fun i j k h => by cases h⟩
theorem Fgr.kept {row : Option Nat} (h : Fgr w base e f L) (hg : w.grownBy w' row) (hr : ∀ i, (f i).ownBlock = none ∨ (f i).ownBlock ≠ row) : Fgr w' base e f L :=
 ⟨fun i => (h.own i).kept hg (hr i), h.apart⟩
theorem Fgr.below (h : Fgr w base e f L) (hb : Below w.heap.size w w') : Fgr w' base e f L :=
 h.kept (row := none) ⟨hb.os, hb.tape, hb.output, hb.size, fun k hk _ => hb.block k hk⟩ (fun i => by cases hv : (f i).ownBlock with | none => exact .inl rfl | some k => exact .inr (by simp))
theorem Fgr.other {b : Nat} (h : Fgr w base e f L) (hg : w.grownBy w' (some b)) (hb : b < base) : Fgr w' base e f L :=
 h.kept hg (fun i => by
  cases hv : (f i).ownBlock with
  | none => exact .inl rfl
  | some k => exact .inr (fun e => by have := ((h.own i).lt k hv).1; cases e; omega))
theorem Fgr.app (h : Fgr w base e f L) (i : ByteArray) {x : Fl} {g cap : Nat} (ho : w'.ownsRow base e 2 (.slice (some ⟨g, 0, none⟩) ((L i).length + 1) cap) ((L i).length + 1) (flat flC (L i) ++ flC x)) (hg : w.grownBy w' (f i).ownBlock)
  (hat : (f i).ownBlock = some g ∨ g = w.heap.size) : Fgr w' base e (fun j => if j = i then .slice (some ⟨g, 0, none⟩) ((L i).length + 1) cap else f j) (fun j => if j = i then L i ++ [x] else L j) := by
 have hlt : ∀ j k, (f j).ownBlock = some k -> k < w.heap.size := fun j k hk => ((h.own j).lt k hk).2; refine ⟨fun j => ?_, fun j l k hj hl => ?_⟩
 . by_cases hji : j = i
   . simp only [hji, if_true]
     rw [List.length_append]; have : flat flC (L i ++ [x]) = flat flC (L i) ++ flC x := by rw [bT]; simp [flat]
     rw [this]; exact ho
   . simp only [hji, if_false]
     refine (h.own j).kept hg ?_; cases hv : (f j).ownBlock with
     | none => exact .inl rfl
     | some k => exact .inr (fun e' => hji (h.apart j i k hv e'.symm))
 . have new : ∀ j, j ≠ i -> (f j).ownBlock = some g -> False := fun j hj hb => by
     rcases hat with hat | hat
     . exact hj (h.apart j i g hb hat)
     . have := hlt j g hb; omega
   by_cases hji : j = i
   . by_cases hli : l = i
     . rw [hji, hli]
     . simp only [hji, if_true, hli, if_false] at hj hl
       have : g = k := by simpa [Value.ownBlock] using hj
       exact (new l hli (this ▸ hl)).elim
   . by_cases hli : l = i
     . simp only [hji, if_false, hli, if_true] at hj hl
       have : g = k := by simpa [Value.ownBlock] using hl
       exact (new j hji (this ▸ hj)).elim
     . simp only [hji, hli, if_false] at hj hl
       exact h.apart j l k hj hl
end
theorem vG (l : List Fl) (f : Fl) (s : ByteArray) : inD (l ++ [f]) s = inD l s ++ (if deN f.1 = true /\ fsN f.1 = s then [(rsN f.1, f.2)] else []) := by
 unfold inD; rw [List.filter_append, List.map_append]
 congr 1
 by_cases h : deN f.1 = true /\ fsN f.1 = s
 . rw [if_pos h, List.filter_cons_of_pos (by simp [h.1, h.2])]; rfl
 . rw [if_neg h, List.filter_cons_of_neg (by simpa using h)]; rfl
theorem sU {l : List Fl} {f : Fl} (hn : f.1 ∉ l.map Prod.fst) (s : ByteArray) : bR (l ++ [f]) s = if f.1 = s then some f.2 else bR l s := by
 unfold bR; rw [List.find?_append]; by_cases h : f.1 = s
 . rw [if_pos h]
   have : l.find? (fun f => decide (f.1 = s)) = none := by
    rw [List.find?_eq_none]; intro x hx he; exact hn (by rw [h, <- (of_decide_eq_true he)]; exact List.mem_map_of_mem hx)
   rw [this]; simp [h]
 . rw [if_neg h]
   cases l.find? (fun f => decide (f.1 = s)) with
   | none => simp [h]
   | some x => simp
def eX : Value := .slice none 0 0
def jb (f : Fl) : Value := .agg #[.string f.1, .string f.2]
structure StM (w : World) (bb bf base N : Nat) (gb gf : ByteArray -> Option Value) (l : List Fl) : Prop where
 b : Rm w Tryz.prog 9 bb N gb
 f : Rm w Tryz.prog 9 bf N gf
 rows : Fgr w base 94 (fun s => (gb s).getD eX) (inD l)
 gbs : ∀ s, (gb s).isSome = true ↔ inD l s ≠ []
 gfs : ∀ s, gf s = if deN s = true then none else (bR l s).map (fun d => jb (s, d))
section
variable {w w' : World} {bb bf base N : Nat} {gb gf : ByteArray -> Option Value} {l : List Fl}
theorem StM.below (h : StM w bb bf base N gb gf l) (hb : Below w.heap.size w w') : StM w' bb bf base N gb gf l :=
 ⟨h.b.below hb h.b.lt, h.f.below hb h.f.lt, h.rows.below hb, h.gbs, h.gfs⟩
theorem StM.alloc (h : StM w bb bf base N gb gf l) (o : Obj) : StM (w.alloc o) bb bf base N gb gf l := h.below ((Below.refl _ w).alloc ai o)
theorem StM.start (w : World) (base : Nat) : StM ((w.alloc (.map #[] 0)).alloc (.map #[] 0)) w.heap.size (w.heap.size + 1) base 0 (fun _ => none) (fun _ => none) [] := by
 refine ⟨(Rm.made w Tryz.prog _).alloc _, ?_, Fgr.start _ _ _, fun s => by simp [inD], fun s => by simp [bR]⟩; have := Rm.made (w.alloc (.map #[] 0)) Tryz.prog 9; rw [World.size_alloc] at this; exact this
theorem StM.file (h : StM w bb bf base N gb gf l) (hne : bb ≠ bf) (hbf : bf < base) {f : Fl} (hd : deN f.1 = false) (hn : f.1 ∉ l.map Prod.fst) (hr : Rm w' Tryz.prog 9 bf (N + 1) (upd gf f.1 (jb f))) (hg : w.grownBy w' (some bf)) :
  StM w' bb bf base (N + 1) gb (upd gf f.1 (jb f)) (l ++ [f]) := by
 have e : inD (l ++ [f]) = inD l := by
  funext s
  rw [vG, if_neg (by rw [hd]; simp), List.append_nil]
 refine ⟨(h.b.kept hg (fun e => hne (Option.some.inj e))).more (by omega), hr, by rw [e]; exact h.rows.other hg hbf, fun s => by rw [e]; exact h.gbs s, fun s => ?_⟩; unfold upd; rw [sU hn]; by_cases hs : s = f.1
 . subst hs
   rw [if_pos rfl, hd, if_pos rfl]; rfl
 . rw [if_neg hs, if_neg (show ¬ f.1 = s from fun e => hs e.symm)]
   exact h.gfs s
theorem StM.dir {w1 : World} (h : StM w bb bf base N gb gf l) (hlt : bb < base /\ bf < base /\ bb ≠ bf) {f : Fl} (hd : deN f.1 = true) (hn : f.1 ∉ l.map Prod.fst) {g cap : Nat}
  (ho : w1.ownsRow base 94 2 (.slice (some ⟨g, 0, none⟩) ((inD l (fsN f.1)).length + 1) cap) ((inD l (fsN f.1)).length + 1) (flat flC (inD l (fsN f.1)) ++ flC (rsN f.1, f.2))) (hg : w.grownBy w1 ((gb (fsN f.1)).getD eX).ownBlock)
  (hat : ((gb (fsN f.1)).getD eX).ownBlock = some g ∨ g = w.heap.size)
  (hr : Rm w' Tryz.prog 9 bb (N + 1) (upd gb (fsN f.1) (.slice (some ⟨g, 0, none⟩) ((inD l (fsN f.1)).length + 1) cap))) (hg2 : w1.grownBy w' (some bb)) :
  StM w' bb bf base (N + 1) (upd gb (fsN f.1) (.slice (some ⟨g, 0, none⟩) ((inD l (fsN f.1)).length + 1) cap)) gf (l ++ [f]) := by
 have hne : ∀ b, b < base -> some b ≠ ((gb (fsN f.1)).getD eX).ownBlock := fun b hb e => by have := ((h.rows.own (fsN f.1)).lt b e.symm).1; omega
 have e1 : (fun s => (upd gb (fsN f.1) (.slice (some ⟨g, 0, none⟩) ((inD l (fsN f.1)).length + 1) cap) s).getD eX) = fun s => if s = fsN f.1 then .slice (some ⟨g, 0, none⟩) ((inD l (fsN f.1)).length + 1) cap else (gb s).getD eX := by
  funext s
  unfold upd; by_cases hs : s = fsN f.1
  . rw [if_pos hs, if_pos hs]; rfl
  . rw [if_neg hs, if_neg hs]
 have e2 : inD (l ++ [f]) = fun s => if s = fsN f.1 then inD l (fsN f.1) ++ [(rsN f.1, f.2)] else inD l s := by
  funext s
  rw [vG]; by_cases hs : s = fsN f.1
  . subst hs; rw [if_pos ⟨hd, rfl⟩, if_pos rfl]
  . rw [if_neg (fun e => hs e.2.symm), if_neg hs, List.append_nil]
 refine ⟨hr, ((h.f.kept hg (hne bf hlt.2.1)).kept hg2 (fun e => hlt.2.2 (by cases e; rfl))).more (by omega), ?_, fun s => ?_, fun s => ?_⟩
 . rw [e1, e2]
   exact (h.rows.app (fsN f.1) ho hg hat).other hg2 hlt.1
 . rw [e2]
   unfold upd; by_cases hs : s = fsN f.1
   . simp [hs]
   . simp only [if_neg hs]; exact h.gbs s
 . rw [sU hn]
   by_cases hs : f.1 = s
   . subst hs; rw [h.gfs, if_pos hd, if_pos hd]
   . rw [if_neg hs]; exact h.gfs s
end
theorem CW {gb gf : ByteArray -> Option Value} {l : List Fl} (hl : OkL l) (h1 : ∀ s, (gb s).isSome = true ↔ inD l s ≠ []) (h2 : ∀ s, gf s = if deN s = true then none else (bR l s).map (fun d => jb (s, d))) {N M : Nat} {ks qs : List ByteArray} (hk : gH gf N ks) (hq : gH gb M qs) :
  fB (ks ++ qs) = aU l /\ ∀ n ∈ aU l, deN n = false := by
 have hfl : ∀ x, x ∈ ks ↔ deN x = false /\ ∃ d, (x, d) ∈ l := fun x => by
  rw [hk.mem, h2]; cases hd : deN x with
  | true => simp
  | false =>
    simp only [Bool.false_eq_true, if_false, Option.isSome_map, true_and]; rw [Option.isSome_iff_exists]; constructor
    . rintro ⟨d, h⟩; exact ⟨d, (iA hl.nod).1 h⟩
    . rintro ⟨d, h⟩; exact ⟨d, (iA hl.nod).2 h⟩
 have hdr : ∀ x, x ∈ qs ↔ ∃ g ∈ l, deN g.1 = true /\ fsN g.1 = x := fun x => by
  rw [hq.mem, h1]; constructor
  . intro h
    obtain ⟨f, hf⟩ := List.exists_mem_of_ne_nil _ h; obtain ⟨g, hg, a, b, _⟩ := mem_inD.1 hf; exact ⟨g, hg, a, b⟩
  . rintro ⟨g, hg, a, b⟩ e
    have : (rsN g.1, g.2) ∈ inD l x := mem_inD.2 ⟨g, hg, a, b, rfl⟩; rw [e] at this; cases this
 have hdis : ∀ x, x ∈ ks -> x ∉ qs := fun x hx hx' => by
  obtain ⟨_, d, hd⟩ := (hfl x).1 hx; obtain ⟨g, hg, a, b⟩ := (hdr x).1 hx'; have h3 := hl.nob _ hd g hg; rw [Bool.eq_false_iff] at h3; refine h3 ((oq _ _).2 ⟨bl (rsN g.1), ?_⟩); rw [gu a, b]
 have hno : ∀ n ∈ aU l, deN n = false := fun n hn => by
  obtain ⟨f, _, rfl⟩ := nms_mem.1 hn; exact (ql (oV _)).2
 refine ⟨vR (BZ (List.nodup_append.2 ⟨hk.nod, hq.nod, fun a ha b hb e => hdis a ha (by rw [e]; exact hb)⟩)) (lV l) (fun x => ?_), hno⟩; rw [CX, List.mem_append, hfl, hdr, nms_mem]; constructor
 . rintro (⟨h, d, hd⟩ | ⟨g, hg, _, h⟩)
   . exact ⟨_, hd, (iL h).symm⟩
   . exact ⟨g, hg, h.symm⟩
 . rintro ⟨f, hf, rfl⟩
   cases hd : deN f.1 with
   | false => exact .inl ⟨(ql (oV _)).2, f.2, by rw [iL hd]; exact hf⟩
   | true => exact .inr ⟨f, hf, hd, rfl⟩
structure Gb (p : Nat -> Prop) (w w' : World) : Prop where
 os : w'.os = w.os
 tape : w'.tape = w.tape
 output : w'.output = w.output
 size : w.heap.size <= w'.heap.size
 block : ∀ k, k < w.heap.size -> ¬ p k -> w'.heap[k]? = w.heap[k]?
section
variable {p q : Nat -> Prop} {a b c : World}
theorem Gb.refl (p : Nat -> Prop) (w : World) : Gb p w w := ⟨rfl, rfl, rfl, Nat.le_refl _, fun _ _ _ => rfl⟩
theorem Gb.trans (h : Gb p a b) (k : Gb p b c) : Gb p a c := ⟨k.os.trans h.os, k.tape.trans h.tape, k.output.trans h.output, Nat.le_trans h.size k.size, fun i hi hp => (k.block i (Nat.lt_of_lt_of_le hi h.size) hp).trans (h.block i hi hp)⟩
theorem Gb.mono (h : Gb p a b) (hq : ∀ k, k < a.heap.size -> p k -> q k) : Gb q a b := ⟨h.os, h.tape, h.output, h.size, fun i hi hn => h.block i hi (fun hp => hn (hq i hi hp))⟩
theorem Gb.of_below (h : Below a.heap.size a b) : Gb p a b := ⟨h.os, h.tape, h.output, h.size, fun i hi _ => h.block i hi⟩
theorem Gb.below {B : Nat} (h : Gb p a b) (hB : B <= a.heap.size) (hp : ∀ k, k < B -> ¬ p k) : Below B a b := ⟨h.os, h.tape, h.output, h.size, fun i hi => h.block i (by omega) (hp i hi)⟩
theorem Gb.set {w : World} {x : Nat} (hx : p x) (o : Nat) (v : Value) : Gb p w (w.setCell ⟨x, o, none⟩ v) := ⟨rfl, rfl, rfl, by simp, fun i _ hn => Below.heap_setCell w ⟨x, o, none⟩ v i (fun e => hn (by have e' : i = x := e; rw [e']; exact hx))⟩
theorem Gb.after {x : Nat} (h : Gb p a b) (hx : a.heap.size <= x) (o : Nat) (v : Value) : Gb p a (b.setCell ⟨x, o, none⟩ v) := ⟨h.os, h.tape, h.output, by have := h.size; simpa using this, fun i hi hn => (Below.heap_setCell b ⟨x, o, none⟩ v i (fun e => by have e' : i = x := e; omega)).trans (h.block i hi hn)⟩
theorem Gb.bk {x : Nat} {t : TypeId} {cs : Array Value} (h : Gb p a b) (hk : Bk a x t cs) (hx : ¬ p x) : Bk b x t cs := (h.block x hk.lt hx).trans hk
end
theorem vC {w : World} {rb : Nat} {t : TypeId} {x y : Value} (h : Bk w rb t #[x, y]) (x' y' : Value) : Bk ((w.setCell ⟨rb, 1, none⟩ y').setCell ⟨rb, 0, none⟩ x') rb t #[x', y'] := by
 have := (h.set 1 y').set 0 x'
 simpa using this
theorem uK (w : World) (rb : Nat) (x' y' : Value) : Gb (fun g => g = rb) w ((w.setCell ⟨rb, 1, none⟩ y').setCell ⟨rb, 0, none⟩ x') :=
 (Gb.set (p := fun g => g = rb) (x := rb) rfl 1 y').trans (Gb.set (p := fun g => g = rb) (x := rb) rfl 0 x')
theorem Gb.sl {p : Nat -> Prop} {w w' : World} {B size n : Nat} {A : OA} {xs : List Value} (h : Gb p w w') (hs : Sl w B size A n xs) (hB : B <= w.heap.size) (hp : ∀ k, k < B -> ¬ p k) : Sl w' B size A n xs := hs.below (h.below hB hp) ai
def wd1 (l : Bytes) (k : Nat) : Nat := ek 0 (l.take (min k 8))
def wd2 (l : Bytes) (k : Nat) : Nat := ek 0 ((l.drop 8).take (k - 8))
theorem uj (l : Bytes) (b : UInt8) : ek 0 (l ++ [b]) = ek 0 l * 256 + b.toNat := by simp [ek]
theorem uZ {l : Bytes} {k : Nat} {b : UInt8} (h : l[k]? = some b) (hk : k < 8) : wd1 l (k + 1) = wd1 l k * 256 + b.toNat /\ wd2 l (k + 1) = wd2 l k := by
 unfold wd1 wd2; rw [show min (k + 1) 8 = k + 1 by omega, show min k 8 = k by omega, bA h, uj, show k + 1 - 8 = 0 by omega, show k - 8 = 0 by omega]; exact ⟨rfl, rfl⟩
theorem vJ {l : Bytes} {k : Nat} {b : UInt8} (h : l[k]? = some b) (hk : 8 <= k) : wd1 l (k + 1) = wd1 l k /\ wd2 l (k + 1) = wd2 l k * 256 + b.toNat := by
 unfold wd1 wd2; have h' : (l.drop 8)[k - 8]? = some b := by rw [List.getElem?_drop, show 8 + (k - 8) = k by omega]; exact h
 rw [show min (k + 1) 8 = 8 by omega, show min k 8 = 8 by omega, show k + 1 - 8 = k - 8 + 1 by omega, bA h', uj]; exact ⟨rfl, rfl⟩
theorem xq {l : Bytes} {k : Nat} (hk : k < 8) : wd1 l k < 256 ^ 7 := by
 have h := jQ (l.take (min k 8)) 0; have hl : (l.take (min k 8)).length <= 7 := by rw [List.length_take]; omega
 have := Nat.pow_le_pow_right (n := 256) (by omega) hl; unfold wd1; omega
theorem xA {l : Bytes} {k : Nat} (hk : k < 16) : wd2 l k < 256 ^ 7 := by
 have h := jQ ((l.drop 8).take (k - 8)) 0; have hl : ((l.drop 8).take (k - 8)).length <= 7 := by rw [List.length_take]; omega
 have := Nat.pow_le_pow_right (n := 256) (by omega) hl; unfold wd2; omega
theorem xR (l : Bytes) : dg l = ((wd1 l 16 : Int), (wd2 l 16 : Int)) := rfl
theorem oo {s : ByteArray} {k : Nat} (h : k < s.size) : (toL s)[k]? = some s[k] := by
 rw [List.getElem?_eq_getElem (by rw [<- bu]; exact h)]; rfl
theorem wu {x y : Nat} (hx : x < 256 ^ 7) (hy : y < 256) : bits .or .u64 ((x : Int) * 256) (y : Int) = (x : Int) * 256 + (y : Int) :=
 bits_join .u64 64 (by decide) (fun n h0 h1 => IntWalk.u64_in n (by omega)) 8 ((x : Int) * 256) (y : Int) (by omega) (by omega) (by omega) (by omega) (by omega) (by omega)
def iq (r : Nat × Nat × Int) (w : World) (e : Ending) (w' : World) : Prop := e = .returned (.tuple #[.int .i64 r.1, .int .i64 r.2.1, .int .i64 r.2.2]) /\ w = w'
theorem tZ {s : ByteArray} {k : Nat} (h : k < s.size) : (toL s).drop k = s[k] :: (toL s).drop (k + 1) := by
 rw [List.drop_eq_getElem_cons (by rw [<- bu]; exact h)]; rfl
theorem sZ (s : ByteArray) (w : World) : Calls Tryz.prog 121 #[.string s] w (iq (aJ (toL s)) w) := by
 have HR : Hid (∀ r, aJ (toL s) = r -> ∀ e w', iq r w e w' -> iq (aJ (toL s)) w e w') := fun r h e w' hh => by rw [h]; exact hh
 have H0 : Hid (aJ (toL s) = gi 6 0 0 1 ((toL s).drop 0)) := rfl
 go_enter Tryz.func121, Tryz.ntmps121
 go_wp2
 go_loop [5, 6, 9] (fun n u i => ∃ k a b : Nat, k <= 6 /\ i = .int .i64 k /\ n = .int .i64 a /\ u = .int .i64 b /\ 1 <= b /\ b <= 128 ^ 6 /\ Hid (b = 128 ^ k) /\ a < b /\ Hid (aJ (toL s) = gi (6 - k) k a b ((toL s).drop k))) (fun _ _ i => 6 - (intOf i).toNat)
 case atStart => exact ⟨0, 0, 1, by omega, rfl, rfl, rfl, by omega, by omega, rfl, by omega, H0.out⟩
 case round =>
  obtain ⟨k, a, b, hk, rfl, rfl, rfl, hb1, hb2, hb, hab, hg⟩ := hrel; by_cases hlt : k < 6
  . have hf : Hid (6 - k = 5 - k + 1) := by show _ = _; omega
    by_cases hsz : k < s.size
    . have hsz' : ¬ (s.size : Int) <= (k : Int) := by omega
      have hbn : Hid (128 * b = 128 ^ (k + 1)) := by show _ = _; rw [hb.out, Nat.pow_succ, Nat.mul_comm]
      have hbp : 128 * b <= 128 ^ 6 := by rw [hbn.out]; exact Nat.pow_le_pow_right (by omega) (by omega)
      have hst : Hid (aJ (toL s) = if s[k].toNat < 128 then (if (s[k].toNat = 0 /\ 0 < k) ∨ 1099511627776 < a + s[k].toNat * b then (0, 0, 13) else (a + s[k].toNat * b, k + 1, 0)) else gi (5 - k) (k + 1) (a + (s[k].toNat - 128) * b) (b * 128) ((toL s).drop (k + 1))) := by
       show _ = _; rw [hg.out, hf.out, tZ hsz, gi]
      have hd : s[k].toNat < 256 := s[k].toNat_lt; generalize hdd : s[k].toNat = d at *; have hdi : (s[k].toNat : Int) = (d : Int) := by rw [hdd]
      clear hdd; by_cases h128 : d < 128
      . obtain ⟨p, hp⟩ : ∃ p, d * b = p := ⟨_, rfl⟩
        have hpb : p <= 128 * b := by rw [<- hp]; exact Nat.mul_le_mul_right _ (by omega)
        have hpi : (d : Int) * (b : Int) = (p : Int) := by rw [<- hp]; simp
        have h128i : ¬ (128 : Int) <= (d : Int) := by omega
        rw [hp, if_pos h128] at hst; clear hp; by_cases hmx : 1099511627776 < a + p
        . have hmxi : (1099511627776 : Int) < (a : Int) + (p : Int) := by omega
          have hfin : Hid (aJ (toL s) = (0, 0, 13)) := by show _ = _; rw [hst.out, if_pos (.inr hmx)]
          clear hst hg; by_cases hd0 : d = 0
          . have hd0i : ((d : Int) == 0) = true := by rw [beq_iff_eq]; omega
            clear hd0; by_cases hk0 : (0 : Int) < (k : Int)
            all_goals
             go_wp2
             go_ret3
             exact HR.out _ hfin.out _ _ ⟨rfl, rfl⟩
          . have hd0i : ((d : Int) == 0) = false := by rw [beq_eq_false_iff_ne]; omega
            clear hd0
            go_wp2
            go_ret3
            exact HR.out _ hfin.out _ _ ⟨rfl, rfl⟩
        . have hmxi : ¬ (1099511627776 : Int) < (a : Int) + (p : Int) := by omega
          by_cases hd0 : d = 0
          . have hd0i : ((d : Int) == 0) = true := by rw [beq_iff_eq]; omega
            by_cases hk0 : 0 < k
            . have hk0i : (0 : Int) < (k : Int) := by omega
              have hfin : Hid (aJ (toL s) = (0, 0, 13)) := by show _ = _; rw [hst.out, if_pos (.inl ⟨hd0, hk0⟩)]
              clear hst hg hd0
              go_wp2
              go_ret3
              exact HR.out _ hfin.out _ _ ⟨rfl, rfl⟩
            . have hk0i : ¬ (0 : Int) < (k : Int) := by omega
              have hfin : Hid (aJ (toL s) = (a + p, k + 1, 0)) := by show _ = _; rw [hst.out, if_neg (by omega)]
              clear hst hg hd0
              go_wp2
              go_ret3
              exact HR.out _ hfin.out _ _ ⟨rfl, rfl⟩
          . have hd0i : ((d : Int) == 0) = false := by rw [beq_eq_false_iff_ne]; omega
            have hfin : Hid (aJ (toL s) = (a + p, k + 1, 0)) := by show _ = _; rw [hst.out, if_neg (by omega)]
            clear hst hg hd0
            go_wp2
            go_ret3
            exact HR.out _ hfin.out _ _ ⟨rfl, rfl⟩
      . obtain ⟨p, hp⟩ : ∃ p, (d - 128) * b = p := ⟨_, rfl⟩
        have hpb : p + b <= 128 * b := by
         have : (d - 128 + 1) * b <= 128 * b := Nat.mul_le_mul_right _ (by omega); rw [Nat.add_mul, hp] at this; omega
        have hpi : ((d : Int) - 128) * (b : Int) = (p : Int) := by
         rw [<- hp, Int.natCast_mul, Int.ofNat_sub (by omega)]; rfl
        have h128i : (128 : Int) <= (d : Int) := by omega
        rw [hp, if_neg h128] at hst; clear hp
        go_wp2
        go_round
        case rel => exact ⟨k + 1, a + p, b * 128, by omega, by go_num, by go_num, by go_num, by omega, by omega, by show _ = _; rw [Nat.mul_comm]; exact hbn.out, by omega, by show _ = _; rw [hst.out, show 6 - (k + 1) = 5 - k by omega]⟩
        case measure => simp [intOf]; omega
    . have hsz' : (s.size : Int) <= (k : Int) := by omega
      have hfin : Hid (aJ (toL s) = (0, 0, 12)) := by
       show _ = _; rw [hg.out, hf.out, List.drop_of_length_le (by rw [<- bu]; omega), gi]
      clear hg
      go_wp2
      go_ret3
      exact HR.out _ hfin.out _ _ ⟨rfl, rfl⟩
  . have hfin : Hid (aJ (toL s) = (0, 0, 13)) := by
      show _ = _; rw [hg.out, show 6 - k = 0 by omega, gi]
    clear hg
    go_wp2
    go_ret3
    exact HR.out _ hfin.out _ _ ⟨rfl, rfl⟩
def gK (r : Bytes × Nat × Int) (w : World) (e : Ending) (w' : World) : Prop := e = .returned (.tuple #[.string (ofL r.1), .int .i64 r.2.1, .int .i64 r.2.2]) /\ w = w'
theorem sJ (s : ByteArray) (a n : Nat) : s.extract a (a + n) = ofL (((toL s).drop a).take n) := by
 apply ByteArray.ext
 apply Array.toList_inj.1
 show (s.extract a (a + n)).data.toList = ((toL s).drop a).take n; rw [kE, Nat.add_sub_cancel_left]; rfl
theorem zR (s : ByteArray) (hs : s.size <= maxLen) (w : World) : Calls Tryz.prog 122 #[.string s] w (gK (bF (toL s)) w) := by
 unfold maxLen at hs; have HR : Hid (∀ r, bF (toL s) = r -> ∀ e w', gK r w e w' -> gK (bF (toL s)) w e w') := fun r h e w' hh => by rw [h]; exact hh
 have HD : Hid (bF (toL s) = if (aJ (toL s)).2.2 ≠ 0 then ([], 0, (aJ (toL s)).2.2) else if 65536 < (aJ (toL s)).1 then ([], 0, 13) else if (toL s).length < (aJ (toL s)).2.1 + (aJ (toL s)).1 then ([], 0, 12) else (((toL s).drop (aJ (toL s)).2.1).take (aJ (toL s)).1, (aJ (toL s)).2.1 + (aJ (toL s)).1, 0)) := rfl; rw [<- bu] at HD; have hle := oW (toL s); rw [<- bu] at hle; have hmx := oH (toL s)
 go_enter Tryz.func122, Tryz.ntmps122
 go_wp2_with fail; refine (sZ s _).mono ?_; generalize aJ (toL s) = r at *; obtain ⟨n, k, e⟩ := r; rintro e' w' ⟨rfl, rfl⟩; simp only at hle hmx HD ⊢; by_cases he : e = 0
 . subst he
   by_cases hn : 65536 < n
   . have hni : (65536 : Int) < (n : Int) := by omega
     have hfin : Hid (bF (toL s) = ([], 0, 13)) := by show _ = _; rw [HD.out, if_neg (by simp), if_pos hn]
     clear HD
     go_wp2
     go_ret3
     exact HR.out _ hfin.out _ _ ⟨rfl, rfl⟩
   . have hni : ¬ (65536 : Int) < (n : Int) := by omega
     by_cases hl : s.size < k + n
     . have hli : (s.size : Int) - (k : Int) < (n : Int) := by omega
       have hfin : Hid (bF (toL s) = ([], 0, 12)) := by show _ = _; rw [HD.out, if_neg (by simp), if_neg hn, if_pos hl]
       clear HD
       go_wp2
       go_ret3
       exact HR.out _ hfin.out _ _ ⟨rfl, rfl⟩
     . have hli : ¬ (s.size : Int) - (k : Int) < (n : Int) := by omega
       have hfin : Hid (bF (toL s) = (((toL s).drop k).take n, k + n, 0)) := by show _ = _; rw [HD.out, if_neg (by simp), if_neg hn, if_neg hl]
       have HX := ah (sJ s k n); clear HD
       go_wp2
       go_ret3
       exact HR.out _ hfin.out _ _ ⟨by rw [<- HX.out]; rfl, rfl⟩
 . have hne : (e != 0) = true := by rw [bne_iff_ne]; exact he
   have hfin : Hid (bF (toL s) = ([], 0, e)) := by show _ = _; rw [HD.out, if_pos he]
   clear HD he
   go_wp2
   go_ret3
   exact HR.out _ hfin.out _ _ ⟨rfl, rfl⟩
theorem Bk.two {w : World} {b : Nat} {t : TypeId} {x y : Value} (h : Bk w b t #[x, y]) : w.cell? ⟨b, 0, none⟩ = some x /\ w.cell? ⟨b, 1, none⟩ = some y /\ w.frozen? ⟨b, 0, none⟩ = false /\ w.frozen? ⟨b, 1, none⟩ = false := by
 have h0 := h.cell 0; have h1 := h.cell 1; simp at h0 h1; exact ⟨h0, h1, h.free 0, h.free 1⟩
theorem nC (x r : Bytes) : (ofL (x ++ r)).extract x.length (ofL (x ++ r)).size = ofL r := by
 apply gW
 show ((ofL (x ++ r)).extract x.length (ofL (x ++ r)).size).data.toList = r; have h : (ofL (x ++ r)).data.toList = x ++ r := rfl; rw [ByteArray.data_extract, Array.toList_extract, List.extract_eq_take_drop, h, List.drop_left, List.take_of_length_le]; rw [bN, List.length_append]; omega
def Rdr (w : World) (b : Nat) (r : Bytes) : Prop := Bk w b 139 #[.string (ofL r), .bool false]
def RdE (v : Value) (b : Nat) (r : Bytes) (w : World) (e : Ending) (w' : World) : Prop := e = .returned v /\ Rdr w' b r /\ Gb (fun g => g = b) w w'
theorem fU (b k : Nat) (r : Bytes) (w : World) (hk : Rdr w b (aj k ++ r)) (hm : k <= 1099511627776) (hl : (aj k ++ r).length <= 1000000) :
  Calls Tryz.prog 80 #[.pointer (some ⟨b, 0, none⟩)] w (RdE (.int .i64 k) b r w) := by
 unfold Rdr at hk; have HX := ah (nC (aj k) r); have hms : (aj k).length <= (aj k ++ r).length := by rw [List.length_append]; omega
 obtain ⟨s, hs⟩ : ∃ s, ofL (aj k ++ r) = s := ⟨_, rfl⟩
 rw [hs] at hk HX; have hsz : s.size = (aj k ++ r).length := by rw [<- hs]; rfl
 have HG := ah (sZ s w); rw [show aJ (toL s) = (k, (aj k).length, 0) by rw [<- hs, eD]; exact jH hm r] at HG; rw [<- hsz] at hms; obtain ⟨m, hme⟩ : ∃ m, (aj k).length = m := ⟨_, rfl⟩
 rw [hme] at HX HG hms; have hmi : (m : Int) <= (s.size : Int) := by omega
 have hsm : (s.size : Int) <= 1000000 := by omega
 have HK := ah hk; obtain ⟨x0, x1, f0, f1⟩ := hk.two; clear hk hs hsz hme hms
 go_enter Tryz.func80, Tryz.ntmps80
 go_wp2_with fail; refine HG.out.mono ?_; rintro e w' ⟨rfl, rfl⟩; go_wp2_with fail; go_ret
 refine ⟨rfl, ?_, uK _ _ _ _⟩; show Bk _ _ _ #[.string (ofL r), .bool false]; rw [<- HX.out]; exact vC HK.out _ _
theorem jo (b : Nat) (x : ByteArray) (r : Bytes) (w : World) (hk : Rdr w b (au (toL x) ++ r)) (hm : x.size <= 65536) (hl : (au (toL x) ++ r).length <= 1000000) :
  Calls Tryz.prog 81 #[.pointer (some ⟨b, 0, none⟩)] w (RdE (.string x) b r w) := by
 unfold Rdr at hk; have HX := ah (nC (au (toL x)) r); have hms : (au (toL x)).length <= (au (toL x) ++ r).length := by rw [List.length_append]; omega
 obtain ⟨s, hs⟩ : ∃ s, ofL (au (toL x) ++ r) = s := ⟨_, rfl⟩
 rw [hs] at hk HX; have hsz : s.size = (au (toL x) ++ r).length := by rw [<- hs]; rfl
 have HG := ah (zR s (by unfold maxLen; omega) w); rw [show bF (toL s) = (toL x, (au (toL x)).length, 0) by rw [<- hs, eD]; exact lK (by rw [<- bu]; exact hm) r] at HG; rw [<- hsz] at hms; obtain ⟨m, hme⟩ : ∃ m, (au (toL x)).length = m := ⟨_, rfl⟩
 rw [hme] at HX HG hms; have hmi : (m : Int) <= (s.size : Int) := by omega
 have hsm : (s.size : Int) <= 1000000 := by omega
 have HK := ah hk; obtain ⟨x0, x1, f0, f1⟩ := hk.two; clear hk hs hsz hme hms; unfold gK at HG; simp only [fu] at HG
 go_enter Tryz.func81, Tryz.ntmps81
 go_wp2_with fail; refine HG.out.mono ?_; rintro e w' ⟨rfl, rfl⟩; go_wp2_with fail; go_ret
 refine ⟨rfl, ?_, uK _ _ _ _⟩; show Bk _ _ _ #[.string (ofL r), .bool false]; rw [<- HX.out]; exact vC HK.out _ _
theorem nu (b : Nat) (d : Dig) (r : Bytes) (w : World) (hk : Rdr w b (ak d ++ r)) (hd : WfD d) (hl : (ak d ++ r).length <= 1000000) :
  Calls Tryz.prog 84 #[.pointer (some ⟨b, 0, none⟩)] w (RdE (az d) b r w) := by
 unfold Rdr at hk; have HX := ah (nC (ak d) r); rw [dU] at HX; have h16 : 16 <= (ak d ++ r).length := by rw [List.length_append, dU]; omega
 obtain ⟨s, hs⟩ : ∃ s, ofL (ak d ++ r) = s := ⟨_, rfl⟩
 rw [hs] at hk HX; have hsz : s.size = (ak d ++ r).length := by rw [<- hs]; rfl
 have HD : Hid (dg (toL s) = d) := by show _ = _; rw [<- hs, eD]; exact lZ hd r
 rw [<- hsz] at h16 hl; have h16i : ¬ (s.size : Int) < 16 := by omega
 have h16j : (16 : Int) <= (s.size : Int) := by omega
 have HE := ah (xR (toL s)); have hbw := hk.lt; obtain ⟨W0, hW0⟩ : ∃ W0, (w.alloc (.cells #[.int .u64 0, .int .u64 0] 42)).alloc (.cells #[.int .u64 0, .int .u64 0] 42) = W0 := ⟨_, rfl⟩
 have HK0 : Hid (Bk W0 w.heap.size 42 #[.int .u64 0, .int .u64 0]) := by rw [<- hW0]; exact (Bk.new w _ _).alloc _
 have HK1 : Hid (Bk W0 (w.heap.size + 1) 42 #[.int .u64 0, .int .u64 0]) := by
  rw [<- hW0]; have := Bk.new (w.alloc (.cells #[.int .u64 0, .int .u64 0] 42)) 42 #[.int .u64 0, .int .u64 0]
  rwa [World.size_alloc] at this
 have HB : Hid (Below w.heap.size w W0) := by rw [<- hW0]; exact ((Below.refl _ w).alloc ai _).alloc (by simp) _
 have HR := ah hk; obtain ⟨x0, x1, _, _⟩ := (hk.below HB.out hbw).two; clear hk hs hsz
 go_enter Tryz.func84, Tryz.ntmps84
 go_wp2_with fail; clear hW0
 go_loopw [15] (fun i wr => ∃ k : Nat, k <= 16 /\ i = .int .i64 k /\ Hid (Bk wr w.heap.size 42 #[.int .u64 0, .int .u64 0]) /\ Hid (Bk wr (w.heap.size + 1) 42 #[.int .u64 (wd1 (toL s) k), .int .u64 (wd2 (toL s) k)]) /\ Hid (Below w.heap.size w wr)) (fun i _ => 16 - (intOf i).toNat)
 case atStart => exact ⟨0, by omega, rfl, HK0.out, HK1.out, HB.out⟩
 case round =>
  obtain ⟨k, hk, rfl, J0, J1, hB⟩ := hrel; clear x0 x1; obtain ⟨x0, x1, xf, _⟩ := (HR.out.below hB.out hbw).two; by_cases hlt : k < 16
  . have hsz : k < s.size := by omega
    have hd : s[k].toNat < 256 := s[k].toNat_lt; have hki : (k : Int) < 16 := by omega
    by_cases h8 : k < 8
    . have hx := xq (l := toL s) h8
      obtain ⟨e1, e2⟩ := uZ (oo hsz) h8; have HE1 := ah e1; have HE2 := ah e2; have y0 := J1.out.cell 0; have y1 := J1.out.cell 1; have f0 := J1.out.free 0; simp at y0 y1; clear e1 e2 HX HD; have hq : (k : Int) / 8 = 0 := by omega
      generalize wd1 (toL s) k = x at *; generalize wd2 (toL s) k = y at *; have hor := wu (x := x) (y := s[k].toNat) (by omega) (by omega); go_wp2_with fail
      go_region
      go_wp2_with fail; go_roundw
      case rel => exact ⟨k + 1, by omega, by go_num, J0.out.far (p := ⟨w.heap.size + 1, 0, none⟩) (by simp) _, by show Bk _ _ _ _; rw [HE1.out, HE2.out]; exact J1.out.set 0 _, (hB.out.setCell (p := ⟨w.heap.size + 1, 0, none⟩) (by simp) _).drew⟩
      case measure => simp [intOf]; omega
    . have hx := xA (l := toL s) hlt
      obtain ⟨e1, e2⟩ := vJ (oo hsz) (by omega); have HE1 := ah e1; have HE2 := ah e2; have y0 := J1.out.cell 0; have y1 := J1.out.cell 1; have f1 := J1.out.free 1; simp at y0 y1; clear e1 e2 HX HD; have hq : (k : Int) / 8 = 1 := by omega
      generalize wd1 (toL s) k = x at *; generalize wd2 (toL s) k = y at *; have hor := wu (x := y) (y := s[k].toNat) (by omega) (by omega); go_wp2_with fail
      go_region
      go_wp2_with fail; go_roundw
      case rel => exact ⟨k + 1, by omega, by go_num, J0.out.far (p := ⟨w.heap.size + 1, 1, none⟩) (by simp) _, by show Bk _ _ _ _; rw [HE1.out, HE2.out]; exact J1.out.set 1 _, (hB.out.setCell (p := ⟨w.heap.size + 1, 1, none⟩) (by simp) _).drew⟩
      case measure => simp [intOf]; omega
  . have hke : Hid (k = 16) := by show _ = _; omega
    have hki : ¬ (k : Int) < 16 := by omega
    have HX2 : Hid (d = ((wd1 (toL s) k : Int), (wd2 (toL s) k : Int))) := by show _ = _; rw [<- HD.out, hke.out]; exact HE.out
    have HRr := ah (HR.out.below hB.out hbw); obtain ⟨y0, y1, _, _⟩ := J1.out.two; obtain ⟨z0, z1, f0, f1⟩ := J0.out.two; generalize wd1 (toL s) k = x at *; generalize wd2 (toL s) k = y at *; clear hlt HD; have hne1 : b ≠ w.heap.size := by omega
    have hne2 : b ≠ w.heap.size + 1 := by omega
    go_wp2_with fail; refine bodyPost_ret (fH Tryz.results84 rfl ((J0.out.far (p := ⟨b, 0, none⟩) hne1.symm _).set2 _ _)) rfl ⟨by rw [HX2.out]; rfl, ?_, ?_⟩
    . show Bk _ _ _ #[.string (ofL r), .bool false]
      rw [<- HX.out]; have := (((HRr.out.set 0 (.string (s.extract 16 s.size))).far (p := ⟨w.heap.size, 0, none⟩) hne1 (.int .u64 x)).far (p := ⟨w.heap.size, 1, none⟩) hne1 (.int .u64 y))
      simpa using this
    . exact ((((Gb.of_below hB.out).trans (Gb.set (p := fun g => g = b) (x := b) rfl 0 _)).after ai 0 _).after ai 1 _)
def enC (e : Ent) : List Value := [.string e.nm, .bool e.dir, .int .u64 e.dg.1, .int .u64 e.dg.2]
def yc (e : Ent) : Value := .agg #[.string e.nm, .bool e.dir, .int .u64 e.dg.1, .int .u64 e.dg.2]
def dgC (d : Dig) : List Value := [.int .u64 d.1, .int .u64 d.2]
theorem ma (e : Ent) : (enC e).length = 4 := rfl
theorem aS (d : Dig) : (dgC d).length = 2 := rfl
theorem p8 : (Tryz.prog.info? 111).map (fun i => (i.zero, i.size, i.bytes)) = some (some (.agg #[.string ⟨#[]⟩, .bool false, .int .u64 0, .int .u64 0]), 4, 40) := by kernel_rfl
theorem ik : (Tryz.prog.info? 42).map (fun i => (i.zero, i.size, i.bytes)) = some (some (.agg #[.int .u64 0, .int .u64 0]), 2, 16) := by kernel_rfl
theorem BK {fn : Func} {c : Tmp} (h : fn.results = #[.cell c 111]) {w : World} {a : Array Value} {b : Nat} {x y z u : Value} (ha : a[c]?.getD undef = .pointer (some ⟨b, 0, none⟩)) (hk : Bk w b 111 #[x, y, z, u]) :
  (results fn a).run Tryz.prog w = .ok (.agg #[x, y, z, u]) w := by
 have h0 := hk.cell 0; have h1 := hk.cell 1; have h2 := hk.cell 2; have h3 := hk.cell 3; simp at h0 h1 h2 h3; simp [results, h, ha, go_sem, h0, h1, h2, h3]
theorem Bk.four {w : World} {b : Nat} {t : TypeId} {x y z u : Value} (h : Bk w b t #[x, y, z, u]) : w.cell? ⟨b, 0, none⟩ = some x /\ w.cell? ⟨b, 1, none⟩ = some y /\ w.cell? ⟨b, 2, none⟩ = some z /\ w.cell? ⟨b, 3, none⟩ = some u := by
 have h0 := h.cell 0; have h1 := h.cell 1; have h2 := h.cell 2; have h3 := h.cell 3; simp at h0 h1 h2 h3; exact ⟨h0, h1, h2, h3⟩
theorem Eh {w : World} {b : Nat} {t : TypeId} {x y z u : Value} (h : Bk w b t #[x, y, z, u]) (x' y' z' u' : Value) : Bk ((((w.setCell ⟨b, 0, none⟩ x').setCell ⟨b, 1, none⟩ y').setCell ⟨b, 2, none⟩ z').setCell ⟨b, 3, none⟩ u') b t #[x', y', z', u'] := by
 have := (((h.set 0 x').set 1 y').set 2 z').set 3 u'
 simpa using this
theorem Apd.gb {w w' : World} {base size n c b : Nat} {e : TypeId} {A : OA} {xs : List Value} (h : Apd w base e size A n c xs) (hg : Gb (fun g => g = b) w w') (hb : b < base) : Apd w' base e size A n c xs := by
 rcases h with h | h
 . refine .inl (h.kept (row := some b) ⟨hg.os, hg.tape, hg.output, hg.size, fun k hk hn => hg.block k hk (fun e => hn (by rw [e]))⟩ ?_)
   cases hv : (Value.slice A n c).ownBlock with
   | none => exact .inl rfl
   | some k =>
     have := (h.lt k hv).1; exact .inr (fun e => by cases e; omega)
 . exact .inr h
theorem Ae (b : Nat) (en : Ent) (r : Bytes) (w : World) (hk : Rdr w b (aH en ++ r)) (hok : dM en) (hl : (aH en ++ r).length <= 1000000) :
  Calls Tryz.prog 83 #[.pointer (some ⟨b, 0, none⟩)] w (RdE (yc en) b r w) := by
 have hns := dw hok.nm; have hbw := Bk.lt hk; obtain ⟨nm, dir, dg⟩ := en; obtain ⟨d1, d2⟩ := dg; obtain ⟨k, hkd⟩ : ∃ k, (if dir = true then 1 else 0 : Nat) = k := ⟨_, rfl⟩
 have hk1 : k <= 1 := by rw [<- hkd]; split <;> omega
 have HDR : Hid (dir = decide (k = 1)) := by show _ = _; rw [<- hkd]; cases dir <;> rfl
 unfold aH at hk hl; simp only [hkd, List.append_assoc] at hk hl; have HWD : Hid (WfD (d1, d2)) := hok.dg; simp only at hns; have hl2 : (aj k ++ (ak (d1, d2) ++ r)).length <= 1000000 := by rw [List.length_append] at hl; omega
 have hl3 : (ak (d1, d2) ++ r).length <= 1000000 := by rw [List.length_append] at hl2; omega
 have HL2 := ah hl2; have HL3 := ah hl3; obtain ⟨W1, hW1⟩ : ∃ W, w.alloc (.cells #[.string ⟨#[]⟩, .bool false, .int .u64 0, .int .u64 0] 111) = W := ⟨_, rfl⟩
 have HZ1 : Hid (Bk W1 w.heap.size 111 #[.string ⟨#[]⟩, .bool false, .int .u64 0, .int .u64 0]) := by rw [<- hW1]; exact Bk.new w _ _
 have hb1 : Below w.heap.size w W1 := by rw [<- hW1]; exact (Below.refl _ w).alloc ai _
 have zW1 : W1.heap.size = w.heap.size + 1 := by rw [<- hW1]; simp
 have HG1 : Hid (Gb (fun g => g = b) w W1) := Gb.of_below hb1; have HS := ah (jo b nm (aj k ++ (ak (d1, d2) ++ r)) W1 (Bk.below hk hb1 hbw) (by omega) hl); clear hk hl hl2 hl3 hok hkd hb1
 go_enter Tryz.func83, Tryz.ntmps83
 go_wp2_with fail; refine HS.out.mono ?_; rintro e w2 ⟨rfl, hr2, hg2⟩; have HR2 := ah hr2; have z2 := hg2.size; have HG2 : Hid (Gb (fun g => g = b) w w2) := HG1.out.trans hg2; have HZ2 := ah (hg2.bk HZ1.out (by show ¬ w.heap.size = b; omega)); clear hr2 hg2 hW1 HS; obtain ⟨W3, hW3⟩ : ∃ W, w2.alloc (.cells #[.string nm, .bool false, .int .u64 0, .int .u64 0] 111) = W := ⟨_, rfl⟩
 have HY3 : Hid (Bk W3 w2.heap.size 111 #[.string nm, .bool false, .int .u64 0, .int .u64 0]) := by rw [<- hW3]; exact Bk.new w2 _ _
 have hb3 : Below w2.heap.size w2 W3 := by rw [<- hW3]; exact (Below.refl _ w2).alloc ai _
 have zW3 : W3.heap.size = w2.heap.size + 1 := by rw [<- hW3]; simp
 have HG3 : Hid (Gb (fun g => g = b) w W3) := HG2.out.trans (Gb.of_below hb3); have HZ3 := ah (HZ2.out.below hb3 (by omega)); have HN := ah (fU b k (ak (d1, d2) ++ r) W3 (Bk.below HR2.out hb3 (by omega)) (by omega) HL2.out); have HW3 := ah hW3; clear hb3 hW3; go_wp2_with fail; rw [HW3.out]; refine HN.out.mono ?_; rintro e w4 ⟨rfl, hr4, hg4⟩; have z4 := hg4.size; have HG4 : Hid (Gb (fun g => g = b) w w4) := HG3.out.trans hg4; have HZ4 := ah (hg4.bk HZ3.out (by show ¬ w.heap.size = b; omega)); have HY4 := ah (hg4.bk HY3.out (by show ¬ w2.heap.size = b; omega)); have HR4 := ah hr4; obtain ⟨x0, x1, f0, f1⟩ := Bk.two hr4; obtain ⟨y0, y1, y2, y3⟩ := HY4.out.four; have g1 := HY4.out.free 1; obtain ⟨W5, hW5⟩ : ∃ W, (w4.setCell ⟨b, 1, none⟩ (.bool false)).setCell ⟨w2.heap.size, 1, none⟩ (.bool (decide (k = 1))) = W := ⟨_, rfl⟩
 have hne1 : b ≠ w2.heap.size := by omega
 have hne2 : b ≠ w.heap.size := by omega
 have HR5 : Hid (Rdr W5 b (ak (d1, d2) ++ r)) := by
  rw [<- hW5]; have := (HR4.out.set 1 (.bool false)).far (p := ⟨w2.heap.size, 1, none⟩) hne1 (.bool (decide (k = 1))); show Bk _ _ _ _; simpa using this
 have HY5 : Hid (Bk W5 w2.heap.size 111 #[.string nm, .bool (decide (k = 1)), .int .u64 0, .int .u64 0]) := by
  rw [<- hW5]; have := (HY4.out.far (p := ⟨b, 1, none⟩) hne1.symm (.bool false)).set 1 (.bool (decide (k = 1))); show Bk _ _ _ _; simpa using this
 have HZ5 : Hid (Bk W5 w.heap.size 111 #[.string ⟨#[]⟩, .bool false, .int .u64 0, .int .u64 0]) := by
  rw [<- hW5]; exact (HZ4.out.far (p := ⟨b, 1, none⟩) hne2.symm _).far (p := ⟨w2.heap.size, 1, none⟩) (by show w.heap.size ≠ w2.heap.size; omega) _
 have zW5 : W5.heap.size = w4.heap.size := by rw [<- hW5]; simp [World.setCell]
 have HG5 : Hid (Gb (fun g => g = b) w W5) := by
  rw [<- hW5]; exact (HG4.out.trans (Gb.set (p := fun g => g = b) (x := b) rfl 1 _)).after (by omega) 1 _
 have HD := ah (nu b (d1, d2) r W5 HR5.out HWD.out HL3.out); have hkz : decide ((1 : Int) < (k : Int)) = false := by simp; omega
 have hkd : ((k : Int) == 1) = decide (k = 1) := by
  rw [Bool.eq_iff_iff]; simp; omega
 clear hr4 hg4 HN HW3; go_wp2_with fail; refine HD.out.mono ?_; rintro e w6 ⟨rfl, hr6, hg6⟩; have HY6 := ah (hg6.bk HY5.out (by show ¬ w2.heap.size = b; omega)); have HZ6 := ah (hg6.bk HZ5.out (by show ¬ w.heap.size = b; omega)); have HR6 := ah hr6; have HG6 : Hid (Gb (fun g => g = b) w w6) := HG5.out.trans hg6; clear x0 x1 f0 f1 y0 y1 y2 y3 g1 hr6 hg6 hW5 HD; simp only [az]; obtain ⟨y0, y1, y2, y3⟩ := HY6.out.four; have g2 := HY6.out.free 2; have g3 := HY6.out.free 3; obtain ⟨z0, z1, z2', z3⟩ := HZ6.out.four; obtain ⟨e0, e1, e2, e3⟩ := fr4 HZ6.out; have hzy : w.heap.size ≠ w2.heap.size := by omega
 go_wp2_with fail; refine bodyPost_ret (BK Tryz.results83 rfl (Eh ((HZ6.out.far (p := ⟨w2.heap.size, 2, none⟩) hzy _).far (p := ⟨w2.heap.size, 3, none⟩) hzy _) _ _ _ _)) rfl ⟨by rw [<- HDR.out]; rfl, ?_, ?_⟩
 . exact (((((HR6.out.far (p := ⟨w2.heap.size, 2, none⟩) hne1 _).far (p := ⟨w2.heap.size, 3, none⟩) hne1 _).far (p := ⟨w.heap.size, 0, none⟩) hne2 _).far (p := ⟨w.heap.size, 1, none⟩) hne2 _).far (p := ⟨w.heap.size, 2, none⟩) hne2 _).far (p := ⟨w.heap.size, 3, none⟩) hne2 _
 . exact (((((HG6.out.after (by omega) 2 _).after (by omega) 3 _).after ai 0 _).after ai 1 _).after ai 2 _).after ai 3 _
theorem Dz (b : Nat) (d : Dig) (r : Bytes) (w : World) (hk : Rdr w b (ak d ++ r)) (hd : WfD d) (hl : (ak d ++ r).length <= 1000000) :
  Calls Tryz.prog 84 #[.pointer (some ⟨b, 0, none⟩)] w (RdE (az d) b r w) := nu b d r w hk hd hl
def RlE (t : TypeId) (sz : Nat) (xs : List Value) (n b : Nat) (r : Bytes) (w : World) (e : Ending) (w' : World) : Prop :=
 ∃ A c, e = .returned (.slice A n c) /\ n <= c /\ c <= maxLen /\ Apd w' w.heap.size t sz A n c xs /\ Rdr w' b r /\ Gb (fun g => g = b) w w'
theorem Gb.onto {p : Nat -> Prop} {a b c : World} (h : Gb p a b) (k : Below a.heap.size b c) : Gb p a c := ⟨k.os.trans h.os, k.tape.trans h.tape, k.output.trans h.output, Nat.le_trans h.size k.size, fun i hi hp => (k.block i hi).trans (h.block i hi hp)⟩
theorem oQ {P : Program} {ops : Array Oper} {rest : List Oper} {o : Oper} {a : Act} {w : World} {Q : Exit -> Act -> World -> Prop} (s x : Operand) (t : TypeId) (_ : o.op = .call { callee := .builtin .append, args := #[s, x], argTypes := #[t, t] })
  (h : Hid (wpList P ops Q (o :: rest) a w)) : wpList P ops Q (o :: rest) a w := h
theorem kV {α β : Type} {f : α -> List β} {l : List α} {k : Nat} {x : α} (h : l[k]? = some x) : (l.drop k).flatMap f = f x ++ (l.drop (k + 1)).flatMap f := by
 have hk := List.getElem?_eq_some_iff.1 h; have e : l.drop k = x :: l.drop (k + 1) := by rw [<- hk.2, List.getElem_cons_drop]
 rw [e, List.flatMap_cons]
theorem AL (b : Nat) (es : List Ent) (r : Bytes) (w : World) (hk : Rdr w b (aj es.length ++ (es.flatMap aH ++ r))) (hok : ∀ e ∈ es, dM e) (hn : es.length <= 200) (hl : (aj es.length ++ (es.flatMap aH ++ r)).length <= 1000000) :
  Calls Tryz.prog 82 #[.pointer (some ⟨b, 0, none⟩), .int .i64 200, .func (.func 83) #[.pointer (some ⟨b, 0, none⟩)] #[]] w (RlE 111 4 (flat enC es) es.length b r w) := by
 have hbw := Bk.lt hk; obtain ⟨n, hne⟩ : ∃ n, es.length = n := ⟨_, rfl⟩
 rw [hne] at hk hl hn ⊢; have HLN := ah hne; have hl2 : (es.flatMap aH ++ r).length <= 1000000 := by rw [List.length_append] at hl; omega
 have HL2 := ah hl2; have HOK := ah hok; have HN := ah (fU b n (es.flatMap aH ++ r) w hk (by omega) hl); obtain ⟨i0, hi, hz0, hz1, hz2⟩ := info_parts p8; have Hi := ah hi; have Hz0 := ah hz0; have Hz1 := ah hz1; have Hz2 := ah hz2; clear hk hl hl2 hok hi hz0 hz1 hz2 hne
 go_enter Tryz.func82, Tryz.ntmps82
 go_wp2_with fail; refine HN.out.mono ?_; rintro e w1 ⟨rfl, hr1, hg1⟩; have HR1 := ah hr1; obtain ⟨x0, x1, f0, f1⟩ := Bk.two hr1; have z1 := hg1.size; obtain ⟨W2, hW2⟩ : ∃ W, w1.setCell ⟨b, 1, none⟩ (.bool false) = W := ⟨_, rfl⟩
 have HR2 : Hid (Rdr W2 b (es.flatMap aH ++ r)) := by
  rw [<- hW2]; have := HR1.out.set 1 (.bool false); show Bk _ _ _ _; simpa using this
 have HG2 : Hid (Gb (fun g => g = b) w W2) := by rw [<- hW2]; exact hg1.trans (Gb.set (p := fun g => g = b) (x := b) rfl 1 _)
 have hmz : decide ((200 : Int) < (n : Int)) = false := by simp; omega
 clear hr1 hg1 HN; go_wp2_with fail; clear hW2 x0 x1 f0 f1
 go_loopw [8, 9] (fun l i wr => ∃ (j : Nat) (Aj : OA) (cj : Nat), l = .slice Aj j cj /\ i = .int .i64 (j : Int) /\ j <= n /\ j <= cj /\ cj <= maxLen /\ Hid (Apd wr w.heap.size 111 4 Aj j cj (flat enC (es.take j))) /\ Hid (Rdr wr b ((es.drop j).flatMap aH ++ r)) /\ Hid (Gb (fun g => g = b) w wr)) (fun _ i _ => n - (intOf i).toNat)
 case atStart => exact ⟨0, none, 0, rfl, rfl, Nat.zero_le _, Nat.le_refl _, Nat.zero_le _, .inr ⟨rfl, rfl, rfl⟩, HR2.out, HG2.out⟩
 case round =>
  obtain ⟨j, Aj, cj, rfl, rfl, hj, hjc, hcm, hA, hR, hG⟩ := hrel; obtain ⟨x0, x1, _, _⟩ := Bk.two hR.out; have zr := hG.out.size; by_cases hlt : j < n
  . have hjz : (j : Int) < (n : Int) := by omega
    obtain ⟨en, hen⟩ : ∃ en, es[j]? = some en := ⟨_, List.getElem?_eq_getElem (by rw [HLN.out]; exact hlt)⟩
    have HE := ah hen; have hR2 := hR.out; rw [kV hen, List.append_assoc] at hR2; have hln : (aH en ++ ((es.drop (j + 1)).flatMap aH ++ r)).length <= 1000000 := by
     have h := HL2.out; rw [<- List.take_append_drop j es, List.flatMap_append, kV hen, List.append_assoc, List.append_assoc, List.length_append] at h; omega
    have HC := ah (Ae b en ((es.drop (j + 1)).flatMap aH ++ r) wr hR2 (HOK.out en (List.mem_of_getElem? hen)) hln); clear hen hR2 hln
    go_wp2_with (first | (go_at_call 83; refine HC.out.mono ?_; rintro e w3 ⟨rfl, hr3, hg3⟩; simp only [yc]) | (at_builtin; refine oQ (.tmp 36) (.tmp 39) 73 rfl ?_))
    refine aC ?_; have z3 := hg3.size; refine dJ (base := w.heap.size) (size := 4) _ rfl (.tmp 36) (.tmp 39) 73 rfl 111 i0 _ 40 Tryz.underlying73 Hi.out Hz0.out Hz1.out Hz2.out rfl (by decide) Aj j cj (flat enC (es.take j)) rfl ?own_1 (w3.heap.size + 1) _ 1 _ (enC en) rfl ?nw_1 (by simp [enC, Value.oneCell']) ?m1_1 ?m2_1 ?m3_1 ?_
    case own_1 => exact (hA.out.gb hg3 hbw).below ((Below.refl _ w3).alloc ai _)
    case nw_1 =>
     have := Sl.of_bk (n := 1) (size := 4) (Bk.new w3 111 #[.string en.nm, .bool en.dir, .int .u64 en.dg.1, .int .u64 en.dg.2]) rfl; rw [World.size_alloc] at this; exact this
    case m1_1 => unfold maxLen; omega
    case m2_1 => omega
    case m3_1 => simp; omega
    intro A4 c4 w4 ha4 hb4 hn4 hm4 hok4; have HA4 : Hid (Apd w4 w.heap.size 111 4 A4 (j + 1) c4 (flat enC (es.take (j + 1)))) := by
     show Apd _ _ _ _ _ _ _ _; rw [bA HE.out, bT]
     simpa [flat] using ha4
    have hbo : Below w.heap.size w3 w4 := ((Below.refl w.heap.size w3).alloc (by omega) _).trans hb4; have HG4 : Hid (Gb (fun g => g = b) w w4) := (hG.out.trans hg3).onto hbo; have HR4 : Hid (Rdr w4 b ((es.drop (j + 1)).flatMap aH ++ r)) := Bk.below hr3 hbo hbw; clear ha4 hb4 hok4 hr3 hg3 hbo HC x0 x1; go_wp2_with fail; go_roundw
    case rel => exact ⟨j + 1, A4, c4, rfl, by go_num, hlt, hn4, hm4, HA4.out, HR4.out, HG4.out⟩
    case measure => simp [intOf]; omega
  . have hjz : ¬ (j : Int) < (n : Int) := by omega
    have hjn : n = j := by omega
    subst hjn; have HS : Hid (Apd wr w.heap.size 111 4 Aj n cj (flat enC es)) := by
     have := hA.out; rw [List.take_of_length_le (by rw [HLN.out]; exact Nat.le_refl _)] at this; exact this
    have HR3 : Hid (Rdr wr b r) := by
     have := hR.out; rw [List.drop_of_length_le (by rw [HLN.out]; exact Nat.le_refl _)] at this; exact this
    go_wp2_with fail; go_ret
    exact ⟨Aj, cj, rfl, hjc, hcm, HS.out, HR3.out, hG.out⟩
theorem Ah (b : Nat) (es : List Dig) (r : Bytes) (w : World) (hk : Rdr w b (aj es.length ++ (es.flatMap ak ++ r))) (hok : ∀ e ∈ es, WfD e) (hn : es.length <= 8) (hl : (aj es.length ++ (es.flatMap ak ++ r)).length <= 1000000) :
  Calls Tryz.prog 85 #[.pointer (some ⟨b, 0, none⟩), .int .i64 8, .func (.func 84) #[.pointer (some ⟨b, 0, none⟩)] #[]] w (RlE 42 2 (flat dgC es) es.length b r w) := by
 have hbw := Bk.lt hk; obtain ⟨n, hne⟩ : ∃ n, es.length = n := ⟨_, rfl⟩
 rw [hne] at hk hl hn ⊢; have HLN := ah hne; have hl2 : (es.flatMap ak ++ r).length <= 1000000 := by rw [List.length_append] at hl; omega
 have HL2 := ah hl2; have HOK := ah hok; have HN := ah (fU b n (es.flatMap ak ++ r) w hk (by omega) hl); obtain ⟨i0, hi, hz0, hz1, hz2⟩ := info_parts ik; have Hi := ah hi; have Hz0 := ah hz0; have Hz1 := ah hz1; have Hz2 := ah hz2; clear hk hl hl2 hok hi hz0 hz1 hz2 hne
 go_enter Tryz.func85, Tryz.ntmps85
 go_wp2_with fail; refine HN.out.mono ?_; rintro e w1 ⟨rfl, hr1, hg1⟩; have HR1 := ah hr1; obtain ⟨x0, x1, f0, f1⟩ := Bk.two hr1; have z1 := hg1.size; obtain ⟨W2, hW2⟩ : ∃ W, w1.setCell ⟨b, 1, none⟩ (.bool false) = W := ⟨_, rfl⟩
 have HR2 : Hid (Rdr W2 b (es.flatMap ak ++ r)) := by
  rw [<- hW2]; have := HR1.out.set 1 (.bool false); show Bk _ _ _ _; simpa using this
 have HG2 : Hid (Gb (fun g => g = b) w W2) := by rw [<- hW2]; exact hg1.trans (Gb.set (p := fun g => g = b) (x := b) rfl 1 _)
 have hmz : decide ((8 : Int) < (n : Int)) = false := by simp; omega
 clear hr1 hg1 HN; go_wp2_with fail; clear hW2 x0 x1 f0 f1
 go_loopw [8, 9] (fun l i wr => ∃ (j : Nat) (Aj : OA) (cj : Nat), l = .slice Aj j cj /\ i = .int .i64 (j : Int) /\ j <= n /\ j <= cj /\ cj <= maxLen /\ Hid (Apd wr w.heap.size 42 2 Aj j cj (flat dgC (es.take j))) /\ Hid (Rdr wr b ((es.drop j).flatMap ak ++ r)) /\ Hid (Gb (fun g => g = b) w wr)) (fun _ i _ => n - (intOf i).toNat)
 case atStart => exact ⟨0, none, 0, rfl, rfl, Nat.zero_le _, Nat.le_refl _, Nat.zero_le _, .inr ⟨rfl, rfl, rfl⟩, HR2.out, HG2.out⟩
 case round =>
  obtain ⟨j, Aj, cj, rfl, rfl, hj, hjc, hcm, hA, hR, hG⟩ := hrel; obtain ⟨x0, x1, _, _⟩ := Bk.two hR.out; have zr := hG.out.size; by_cases hlt : j < n
  . have hjz : (j : Int) < (n : Int) := by omega
    obtain ⟨en, hen⟩ : ∃ en, es[j]? = some en := ⟨_, List.getElem?_eq_getElem (by rw [HLN.out]; exact hlt)⟩
    have HE := ah hen; have hR2 := hR.out; rw [kV hen, List.append_assoc] at hR2; have hln : (ak en ++ ((es.drop (j + 1)).flatMap ak ++ r)).length <= 1000000 := by
     have h := HL2.out; rw [<- List.take_append_drop j es, List.flatMap_append, kV hen, List.append_assoc, List.append_assoc, List.length_append] at h; omega
    have HC := ah (Dz b en ((es.drop (j + 1)).flatMap ak ++ r) wr hR2 (HOK.out en (List.mem_of_getElem? hen)) hln); clear hen hR2 hln
    go_wp2_with (first | (go_at_call 84; refine HC.out.mono ?_; rintro e w3 ⟨rfl, hr3, hg3⟩; simp only [az]) | (at_builtin; refine oQ (.tmp 36) (.tmp 39) 24 rfl ?_))
    refine aC ?_; have z3 := hg3.size; refine dJ (base := w.heap.size) (size := 2) _ rfl (.tmp 36) (.tmp 39) 24 rfl 42 i0 _ 16 Tryz.underlying24 Hi.out Hz0.out Hz1.out Hz2.out rfl (by decide) Aj j cj (flat dgC (es.take j)) rfl ?own_1 (w3.heap.size + 1) _ 1 _ (dgC en) rfl ?nw_1 (by simp [dgC, Value.oneCell']) ?m1_1 ?m2_1 ?m3_1 ?_
    case own_1 => exact (hA.out.gb hg3 hbw).below ((Below.refl _ w3).alloc ai _)
    case nw_1 =>
     have := Sl.of_bk (n := 1) (size := 2) (Bk.new w3 42 #[.int .u64 en.1, .int .u64 en.2]) rfl; rw [World.size_alloc] at this; exact this
    case m1_1 => unfold maxLen; omega
    case m2_1 => omega
    case m3_1 => simp; omega
    intro A4 c4 w4 ha4 hb4 hn4 hm4 hok4; have HA4 : Hid (Apd w4 w.heap.size 42 2 A4 (j + 1) c4 (flat dgC (es.take (j + 1)))) := by
     show Apd _ _ _ _ _ _ _ _; rw [bA HE.out, bT]
     simpa [flat] using ha4
    have hbo : Below w.heap.size w3 w4 := ((Below.refl w.heap.size w3).alloc (by omega) _).trans hb4; have HG4 : Hid (Gb (fun g => g = b) w w4) := (hG.out.trans hg3).onto hbo; have HR4 : Hid (Rdr w4 b ((es.drop (j + 1)).flatMap ak ++ r)) := Bk.below hr3 hbo hbw; clear ha4 hb4 hok4 hr3 hg3 hbo HC x0 x1; go_wp2_with fail; go_roundw
    case rel => exact ⟨j + 1, A4, c4, rfl, by go_num, hlt, hn4, hm4, HA4.out, HR4.out, HG4.out⟩
    case measure => simp [intOf]; omega
  . have hjz : ¬ (j : Int) < (n : Int) := by omega
    have hjn : n = j := by omega
    subst hjn; have HS : Hid (Apd wr w.heap.size 42 2 Aj n cj (flat dgC es)) := by
     have := hA.out; rw [List.take_of_length_le (by rw [HLN.out]; exact Nat.le_refl _)] at this; exact this
    have HR3 : Hid (Rdr wr b r) := by
     have := hR.out; rw [List.drop_of_length_le (by rw [HLN.out]; exact Nat.le_refl _)] at this; exact this
    go_wp2_with fail; go_ret
    exact ⟨Aj, cj, rfl, hjc, hcm, HS.out, HR3.out, hG.out⟩
def fM (S : List (Nat × (Value -> World -> Prop))) (vals : List Value) (i : Nat) (v : Value) (W : World) : Prop :=
 match S.lookup i with
 | some p => p v W
 | none => gN vals i v W
theorem sP {β : Type _} : ∀ {S : List (Nat × β)} {i : Nat} {p : β}, S.lookup i = some p -> ∃ x ∈ S, x.2 = p
 | [], i, p, h => by cases h
 | (j, q) :: S, i, p, h => by
   rw [List.lookup_cons] at h; cases e : i == j with
   | true => rw [e] at h; cases h; exact ⟨_, List.mem_cons_self, rfl⟩
   | false =>
     rw [e] at h; obtain ⟨x, hx, e⟩ := sP h; exact ⟨x, List.mem_cons_of_mem _ hx, e⟩
theorem iF {S : List (Nat × (Value -> World -> Prop))} {vals : List Value} (hS : ∀ x ∈ S, ∀ v W W', x.2 v W -> Below W.heap.size W W' -> x.2 v W') (i : Nat) (v : Value) (W W' : World) (h : fM S vals i v W) (hb : Below W.heap.size W W') : fM S vals i v W' := by
 unfold fM at h ⊢; cases e : S.lookup i with
 | none => rw [e] at h; exact h
 | some p =>
   rw [e] at h; obtain ⟨x, hx, rfl⟩ := sP e; exact hS x hx v W W' h hb
theorem ls5 {vs : List Value} (h : vs.length = 5) : ∃ v0 v1 v2 v3 v4, vs = v0 :: v1 :: v2 :: v3 :: v4 :: [] := by
 match vs, h with
 | v0 :: v1 :: v2 :: v3 :: v4 :: [], _ => exact ⟨_, _, _, _, _, rfl⟩
theorem ls7 {vs : List Value} (h : vs.length = 7) : ∃ v0 v1 v2 v3 v4 v5 v6, vs = v0 :: v1 :: v2 :: v3 :: v4 :: v5 :: v6 :: [] := by
 match vs, h with
 | v0 :: v1 :: v2 :: v3 :: v4 :: v5 :: v6 :: [], _ => exact ⟨_, _, _, _, _, _, _, rfl⟩
theorem mP {vs : List Value} (h : vs.length = 10) : ∃ v0 v1 v2 v3 v4 v5 v6 v7 v8 v9, vs = v0 :: v1 :: v2 :: v3 :: v4 :: v5 :: v6 :: v7 :: v8 :: v9 :: [] := by
 match vs, h with
 | v0 :: v1 :: v2 :: v3 :: v4 :: v5 :: v6 :: v7 :: v8 :: v9 :: [], _ => exact ⟨_, _, _, _, _, _, _, _, _, _, rfl⟩
theorem je {vs : List Value} (h : vs.length = 11) : ∃ v0 v1 v2 v3 v4 v5 v6 v7 v8 v9 v10, vs = v0 :: v1 :: v2 :: v3 :: v4 :: v5 :: v6 :: v7 :: v8 :: v9 :: v10 :: [] := by
 match vs, h with
 | v0 :: v1 :: v2 :: v3 :: v4 :: v5 :: v6 :: v7 :: v8 :: v9 :: v10 :: [], _ => exact ⟨_, _, _, _, _, _, _, _, _, _, _, rfl⟩
theorem jh {vs : List Value} (h : vs.length = 12) : ∃ v0 v1 v2 v3 v4 v5 v6 v7 v8 v9 v10 v11, vs = v0 :: v1 :: v2 :: v3 :: v4 :: v5 :: v6 :: v7 :: v8 :: v9 :: v10 :: v11 :: [] := by
 match vs, h with
 | v0 :: v1 :: v2 :: v3 :: v4 :: v5 :: v6 :: v7 :: v8 :: v9 :: v10 :: v11 :: [], _ => exact ⟨_, _, _, _, _, _, _, _, _, _, _, _, rfl⟩
theorem yE {vs : List Value} (h : vs.length = 13) : ∃ v0 v1 v2 v3 v4 v5 v6 v7 v8 v9 v10 v11 v12, vs = v0 :: v1 :: v2 :: v3 :: v4 :: v5 :: v6 :: v7 :: v8 :: v9 :: v10 :: v11 :: v12 :: [] := by
 match vs, h with
 | v0 :: v1 :: v2 :: v3 :: v4 :: v5 :: v6 :: v7 :: v8 :: v9 :: v10 :: v11 :: v12 :: [], _ => exact ⟨_, _, _, _, _, _, _, _, _, _, _, _, _, rfl⟩
theorem yo {vs : List Value} (h : vs.length = 14) : ∃ v0 v1 v2 v3 v4 v5 v6 v7 v8 v9 v10 v11 v12 v13, vs = v0 :: v1 :: v2 :: v3 :: v4 :: v5 :: v6 :: v7 :: v8 :: v9 :: v10 :: v11 :: v12 :: v13 :: [] := by
 match vs, h with
 | v0 :: v1 :: v2 :: v3 :: v4 :: v5 :: v6 :: v7 :: v8 :: v9 :: v10 :: v11 :: v12 :: v13 :: [], _ => exact ⟨_, _, _, _, _, _, _, _, _, _, _, _, _, _, rfl⟩
theorem yj {vs : List Value} (h : vs.length = 20) : ∃ v0 v1 v2 v3 v4 v5 v6 v7 v8 v9 v10 v11 v12 v13 v14 v15 v16 v17 v18 v19, vs = v0 :: v1 :: v2 :: v3 :: v4 :: v5 :: v6 :: v7 :: v8 :: v9 :: v10 :: v11 :: v12 :: v13 :: v14 :: v15 :: v16 :: v17 :: v18 :: v19 :: [] := by
 match vs, h with
 | v0 :: v1 :: v2 :: v3 :: v4 :: v5 :: v6 :: v7 :: v8 :: v9 :: v10 :: v11 :: v12 :: v13 :: v14 :: v15 :: v16 :: v17 :: v18 :: v19 :: [], _ => exact ⟨_, _, _, _, _, _, _, _, _, _, _, _, _, _, _, _, _, _, _, _, rfl⟩
theorem Sl.en {w : World} {B n k : Nat} {A : OA} {l : List Ent} (h : Sl w B 4 A n (flat enC l)) (hk : k < n) :
  ∃ b off e, A = some ⟨b, off, none⟩ /\ b < B /\ l[k]? = some e /\ w.cell? ⟨b, off + k * 4, none⟩ = some (.string e.nm) /\ w.cell? ⟨b, off + k * 4 + 1, none⟩ = some (.bool e.dir) /\ w.cell? ⟨b, off + k * 4 + 2, none⟩ = some (.int .u64 e.dg.1) /\ w.cell? ⟨b, off + k * 4 + 3, none⟩ = some (.int .u64 e.dg.2) := by
 obtain ⟨b, off, x, e, hb, hx, hc⟩ := h.at_ ma (by omega) hk; exact ⟨b, off, x, e, hb, hx, hc 0 _ rfl, hc 1 _ rfl, hc 2 _ rfl, hc 3 _ rfl⟩
theorem Sl.dg {w : World} {B n k : Nat} {A : OA} {l : List Dig} (h : Sl w B 2 A n (flat dgC l)) (hk : k < n) :
  ∃ b off d, A = some ⟨b, off, none⟩ /\ b < B /\ l[k]? = some d /\ w.cell? ⟨b, off + k * 2, none⟩ = some (.int .u64 d.1) /\ w.cell? ⟨b, off + k * 2 + 1, none⟩ = some (.int .u64 d.2) := by
 obtain ⟨b, off, x, e, hb, hx, hc⟩ := h.at_ aS (by omega) hk; exact ⟨b, off, x, e, hb, hx, hc 0 _ rfl, hc 1 _ rfl⟩
theorem iW (x y : Dig) : (x.1 == y.1 && x.2 == y.2) = decide (x = y) := by
 obtain ⟨a, b⟩ := x; obtain ⟨c, d⟩ := y; rw [Bool.eq_iff_iff]; simp
theorem mr {x : Dig} (h : x ≠ zD) : (x.1 == 0 && x.2 == 0) = false := by
 have := iW x zD; rw [decide_eq_false h] at this; exact this
theorem zC (A : OA) (n c B : Nat) (l : List Ent) (w : World) (h0 : Sl w B 4 A n (flat enC l)) (hB : B <= w.heap.size) (hok : dP l) :
  Calls Tryz.prog 138 #[.slice A n c] w fun e w' => e = .returned (.int .i64 0) /\ Below w.heap.size w w' := by
 have HL := ah (h0.len ma (by omega)); have H0 := ah h0; have hn : n <= 200 := by rw [<- HL.out]; exact hok.few
 have HA := ah hok.all; have HS := ah hok.asc; clear h0 hok; have hnz : ¬ (200 : Int) < (n : Int) := by omega
 go_enter Tryz.func138, Tryz.ntmps138
 go_wp2_with fail
 go_loopw [10] (fun i wr => ∃ k : Nat, i = .int .i64 (k : Int) /\ k <= n /\ Hid (Below w.heap.size w wr)) (fun i _ => n - (intOf i).toNat)
 case atStart => exact ⟨0, rfl, Nat.zero_le _, Below.refl _ _⟩
 case round =>
  obtain ⟨k, rfl, hk, hbw⟩ := hrel; have zwr := hbw.out.size; by_cases hlt : k < n
  . have hlz : (k : Int) < (n : Int) := by omega
    obtain ⟨bb, off, en, rfl, hbB, he, y0, y1, y2, y3⟩ := (H0.out.below hbw.out hB).en hlt; have HE := ah he; have HOE := ah (HA.out en (List.mem_of_getElem? he)); obtain ⟨wb, hwb⟩ : ∃ wb, wr.alloc (.cells #[.string en.nm, .bool en.dir, .int .u64 en.dg.1, .int .u64 en.dg.2] 111) = wb := ⟨_, rfl⟩
    have HBb : Hid (Below wr.heap.size wr wb) := by rw [<- hwb]; exact (Below.refl _ wr).alloc ai _
    have HKb : Hid (Bk wb wr.heap.size 111 #[.string en.nm, .bool en.dir, .int .u64 en.dg.1, .int .u64 en.dg.2]) := by rw [<- hwb]; exact Bk.new wr _ _
    have HBw : Hid (Below w.heap.size w wb) := hbw.out.trans (HBb.out.mono zwr); have hns := dw HOE.out.nm; have hnm := HOE.out.nm; have hdz := mr HOE.out.nz; have zwb : wb.heap.size = wr.heap.size + 1 := by rw [<- hwb]; simp
    have HNX : Hid (∀ j, k = j + 1 -> ∃ p, Hid (Op.bytesLess en.nm.toList p.toList = false /\ (en.nm.toList == p.toList) = false) /\ wb.cell? ⟨bb, off + j * 4, none⟩ = some (.string p)) := by
     intro j hj; obtain ⟨bb', off', p, hpe, _, hp, z0, _⟩ := (H0.out.below HBw.out hB).en (k := j) (by omega); cases hpe
     have hl := HS.out j p en hp (by rw [<- hj]; exact HE.out); refine ⟨p.nm, ⟨(kZ _ _).trans ?_, FH fun e => ?_⟩, z0⟩
     . cases hx : less en.nm p.nm with
       | false => rfl
       | true => have := iy hl hx; rw [eG] at this; cases this
     . rw [e, eG] at hl; cases hl
    have x0 := HKb.out.cell 0; have x2 := HKb.out.cell 2; have x3 := HKb.out.cell 3; simp at x0 x2 x3; have x0' := x0; rw [<- hwb] at x0'; have HWb := ah hwb; clear hwb he; obtain ⟨nm, dir, d1, d2⟩ := en; simp only at hns hnm hdz y0 y1 y2 y3 x0 x2 x3 x0' HWb HKb HNX
    go_upto_region 8 with (first | (go_at_call 133; refine (kR nm _ (by unfold maxLen; omega)).mono ?_; rintro e w1 ⟨rfl, rfl⟩; rw [hnm]))
    rw [HWb.out]; clear x0'
    go_cut [20] from 21 to 33 (fun f wx => f = .bool false /\ Hid (Below wb.heap.size wb wx))
    case first =>
     cases k with
     | zero =>
       go_quiet (fail)
       simp only [Exit.then]
       go_step
       go_meet
       exact ⟨rfl, aM (Below.refl _ _) _⟩
     | succ j =>
       obtain ⟨p, HP, z0⟩ := HNX.out j rfl; have hkp : (0 : Int) < ((j + 1 : Nat) : Int) := by omega
       have hw1 : IntKind.i64.wrap (((j + 1 : Nat) : Int) - 1) = (j : Int) := by rw [lW (by omega) (by omega)]; omega
       have hj1 : ¬ (j : Int) < 0 := by omega
       have hj2 : (j : Int) < (n : Int) := by omega
       obtain ⟨hp, hp'⟩ := HP.out
       go_quiet (fail)
       simp only [Exit.then]
       go_step
       go_meet
       exact ⟨rfl, aM (Below.refl _ _) _⟩
    case rest =>
     obtain ⟨rfl, HBc⟩ := hcut; have HBwc : Hid (Below w.heap.size w wc) := HBw.out.trans (HBc.out.mono HBw.out.size); have HKc := ah (HKb.out.below HBc.out HKb.out.lt); clear x0 x2 x3 y0 y1 y2 y3; have x2 := HKc.out.cell 2; have x3 := HKc.out.cell 3; simp at x2 x3; go_wp2_with fail; go_roundw
     case rel => exact ⟨k + 1, by go_num, hlt, HBwc.out⟩
     case measure => simp [intOf]; omega
  . have hlz : ¬ (k : Int) < (n : Int) := by omega
    go_wp2_with fail; go_ret
    exact ⟨rfl, hbw.out⟩
theorem Ao (A : OA) (n c B : Nat) (l : List Dig) (d : Dig) (w : World) (h0 : Sl w B 2 A n (flat dgC l)) (hB : B <= w.heap.size) (hn : n <= 1000000) :
  Calls Tryz.prog 180 #[.slice A n c, az d] w fun e w' => (∃ z : Int, e = .returned (.int .i64 z) /\ ((0 <= z) ↔ d ∈ l)) /\ Below w.heap.size w w' := by
 have HL := ah (h0.len aS (by omega)); have H0 := ah h0; clear h0; obtain ⟨a, b⟩ := d; unfold az; obtain ⟨W, hW⟩ : ∃ W, w.alloc (.cells #[.int .u64 a, .int .u64 b] 42) = W := ⟨_, rfl⟩
 have HB0 : Hid (Below w.heap.size w W) := by rw [<- hW]; exact (Below.refl _ w).alloc ai _
 have HK : Hid (Bk W w.heap.size 42 #[.int .u64 a, .int .u64 b]) := by rw [<- hW]; exact Bk.new w _ _
 have zk : w.heap.size < W.heap.size := HK.out.lt; simp only
 go_enter Tryz.func180, Tryz.ntmps180
 go_wp2_with fail; clear hW
 go_loopw [8] (fun i wr => ∃ k : Nat, k <= n /\ i = .int .i64 k /\ Hid ((a, b) ∉ l.take k) /\ Hid (Below W.heap.size W wr)) (fun i _ => n - (intOf i).toNat)
 case atStart => exact ⟨0, Nat.zero_le _, rfl, (fun h => by simp at h), Below.refl _ _⟩
 case round =>
  obtain ⟨k, hk, rfl, hN, hBel⟩ := hrel; have HBw : Hid (Below w.heap.size w wr) := HB0.out.trans (hBel.out.mono HB0.out.size); by_cases hlt : k < n
  . obtain ⟨bb, off, x, rfl, hbB, hx, y0, y1⟩ := (H0.out.below HBw.out hB).dg hlt
    have hlz : (k : Int) < (n : Int) := by omega
    obtain ⟨x0, x1, _, _⟩ := (HK.out.below hBel.out zk).two; have HX := ah hx; clear hx; have hde := iW (a, b) x; simp only at hde; by_cases e : (a, b) = x
    . rw [decide_eq_true e] at hde
      have HM : Hid ((a, b) ∈ l) := by show _ ∈ _; rw [e]; exact List.mem_of_getElem? HX.out
      clear e; obtain ⟨x1', x2'⟩ := x; simp only at y0 y1 hde; go_wp2_with fail
      go_quiet (fail)
      go_wp2_with fail; go_ret
      exact ⟨⟨_, rfl, fun _ => HM.out, fun _ => by omega⟩, aM HBw.out _⟩
    . rw [decide_eq_false e] at hde
      have HN : Hid ((a, b) ∉ l.take (k + 1)) := fun hm => by
       rw [bA HX.out] at hm; rcases List.mem_append.1 hm with hm | hm
       . exact hN.out hm
       . exact e (List.mem_singleton.1 hm)
      clear e; obtain ⟨x1', x2'⟩ := x; simp only at y0 y1 hde; go_wp2_with fail
      go_quiet (fail)
      go_wp2_with fail; go_roundw
      case rel => exact ⟨k + 1, by omega, by go_num, HN.out, aM hBel.out _⟩
      case measure => simp [intOf]; omega
  . have hlz : ¬ (k : Int) < (n : Int) := by omega
    have HN : Hid ((a, b) ∉ l) := by
     have := hN.out
     rwa [List.take_of_length_le (by rw [HL.out]; omega)] at this
    go_wp2_with fail; go_ret
    exact ⟨⟨_, rfl, fun h => absurd h (by decide), fun h => absurd h HN.out⟩, HBw.out⟩
theorem zn (A : OA) (n c B : Nat) (l : List Dig) (d : Dig) (w : World) (h0 : Sl w B 2 A n (flat dgC l)) (hB : B <= w.heap.size) (hn : n <= 1000000) :
  Calls Tryz.prog 161 #[.slice A n c, az d] w fun e w' => e = .returned (.bool (decide (d ∈ l))) /\ Below w.heap.size w w' := by
 obtain ⟨W, hW⟩ : ∃ W, w.alloc (.cells #[.int .u64 d.1, .int .u64 d.2] 42) = W := ⟨_, rfl⟩
 have HB0 : Hid (Below w.heap.size w W) := by rw [<- hW]; exact (Below.refl _ w).alloc ai _
 have HK : Hid (Bk W w.heap.size 42 #[.int .u64 d.1, .int .u64 d.2]) := by rw [<- hW]; exact Bk.new w _ _
 obtain ⟨x0, x1, _, _⟩ := HK.out.two; have HI := ah (Ao A n c B l d W (h0.below (HB0.out.mono hB) ai) (by have := HB0.out.size; omega) hn); unfold az at HI ⊢; clear h0
 go_enter Tryz.func161, Tryz.ntmps161
 go_wp2_with fail; refine HI.out.mono ?_; rintro e w1 ⟨⟨z, rfl, hz⟩, hb⟩; have HZ := ah hz; have HB1 : Hid (Below w.heap.size w w1) := HB0.out.trans (hb.mono HB0.out.size); clear hz hb; by_cases h : 0 <= z
 . have HM : Hid (d ∈ l) := HZ.out.1 h
   go_wp2_with fail; go_ret
   exact ⟨aZ (by rw [decide_eq_true HM.out]), HB1.out⟩
 . have HM : Hid (d ∉ l) := fun hm => h (HZ.out.2 hm)
   go_wp2_with fail; go_ret
   exact ⟨aZ (by rw [decide_eq_false HM.out]; simp; omega), HB1.out⟩
structure Osl where
 eA : OA
 en : Nat
 ec : Nat
 pA : OA
 pn : Nat
 pc : Nat
def obC (o : Ob) (s : Osl) : Array Value := #[.int .i64 o.kind, .string o.data, .slice s.eA s.en s.ec, .int .u64 o.tree.1, .int .u64 o.tree.2, .slice s.pA s.pn s.pc, .string o.auth, .int .i64 o.time, .string o.msg]
def obV (o : Ob) (s : Osl) : Value := .agg (obC o s)
structure ObM (w : World) (B : Nat) (o : Ob) (s : Osl) : Prop where
 e : Sl w B 4 s.eA s.en (flat enC o.ents)
 p : Sl w B 2 s.pA s.pn (flat dgC o.pars)
 ele : s.en <= s.ec
 emx : s.ec <= maxLen
 ple : s.pn <= s.pc
 pmx : s.pc <= maxLen
theorem ObM.below {w w' : World} {B B' : Nat} {o : Ob} {s : Osl} (h : ObM w B o s) (hb : Below B' w w') (hB : B <= B') : ObM w' B o s := ⟨h.e.below hb hB, h.p.below hb hB, h.ele, h.emx, h.ple, h.pmx⟩
theorem ObM.more {w : World} {B B' : Nat} {o : Ob} {s : Osl} (h : ObM w B o s) (hB : B <= B') : ObM w B' o s := ⟨h.e.more hB, h.p.more hB, h.ele, h.emx, h.ple, h.pmx⟩
theorem ObM.elen {w : World} {B : Nat} {o : Ob} {s : Osl} (h : ObM w B o s) : o.ents.length = s.en := h.e.len ma (by omega)
theorem ObM.plen {w : World} {B : Nat} {o : Ob} {s : Osl} (h : ObM w B o s) : o.pars.length = s.pn := h.p.len aS (by omega)
theorem Bk.nine {w : World} {b : Nat} {t : TypeId} {x0 x1 x2 x3 x4 x5 x6 x7 x8 : Value} (h : Bk w b t #[x0, x1, x2, x3, x4, x5, x6, x7, x8]) : w.cell? ⟨b, 0, none⟩ = some x0 /\ w.cell? ⟨b, 1, none⟩ = some x1 /\ w.cell? ⟨b, 2, none⟩ = some x2 /\ w.cell? ⟨b, 3, none⟩ = some x3 /\ w.cell? ⟨b, 4, none⟩ = some x4 /\ w.cell? ⟨b, 5, none⟩ = some x5 /\ w.cell? ⟨b, 6, none⟩ = some x6 /\ w.cell? ⟨b, 7, none⟩ = some x7 /\ w.cell? ⟨b, 8, none⟩ = some x8 := by
 have c0 := h.cell 0; have c1 := h.cell 1; have c2 := h.cell 2; have c3 := h.cell 3; have c4 := h.cell 4; have c5 := h.cell 5; have c6 := h.cell 6; have c7 := h.cell 7; have c8 := h.cell 8; simp at c0 c1 c2 c3 c4 c5 c6 c7 c8; exact ⟨c0, c1, c2, c3, c4, c5, c6, c7, c8⟩
theorem zG (o : Ob) (s : Osl) (B : Nat) (w : World) (hm : ObM w B o s) (hB : B <= w.heap.size) (hc : OkC o) :
  Calls Tryz.prog 139 #[obV o s] w fun e w' => e = .returned (.int .i64 0) /\ Below w.heap.size w w' := by
 have HL := ah hm.plen; have HP := ah hm.p; have hn : s.pn <= 8 := by have := hc.pars.few; rw [HL.out] at this; exact this
 have HPS := ah hc.pars; have hpc := hm.ple; have hpm := hm.pmx; have htz := mr hc.nz; have hau := hc.auth; have hns := dw hc.auth; have ht0 := hc.t0; have ht1 := hc.t1; have hms := hc.msg; obtain ⟨kind, data, ents, ⟨t1, t2⟩, pars, auth, time, msg⟩ := o; obtain ⟨eA, en, ec, pA, n, pc⟩ := s; simp only at HL HP hn HPS hpc hpm htz hau hns ht0 ht1 hms; simp only [obV, obC]; have hnm : n <= 9223372036854775807 := by omega
 have hnz : ¬ (8 : Int) < (n : Int) := by omega
 have hq1 : ¬ time < 0 := by omega
 have hq2 : ¬ (1099511627776 : Int) < time := by omega
 have hq3 : ¬ (200 : Int) < (msg.size : Int) := by omega
 obtain ⟨W0, hW⟩ : ∃ W0, w.alloc (.cells #[.int .i64 kind, .string data, .slice eA en ec, .int .u64 t1, .int .u64 t2, .slice pA n pc, .string auth, .int .i64 time, .string msg] 75) = W0 := ⟨_, rfl⟩
 have HB0 : Hid (Below w.heap.size w W0) := by rw [<- hW]; exact (Below.refl _ w).alloc ai _
 have HK : Hid (Bk W0 w.heap.size 75 #[.int .i64 kind, .string data, .slice eA en ec, .int .u64 t1, .int .u64 t2, .slice pA n pc, .string auth, .int .i64 time, .string msg]) := by rw [<- hW]; exact Bk.new w _ _
 have zk : w.heap.size < W0.heap.size := HK.out.lt; obtain ⟨c0, c1, c2, c3, c4, c5, c6, c7, c8⟩ := HK.out.nine; clear hm hc
 go_enter Tryz.func139, Tryz.ntmps139
 go_wp2_with fail; clear hW
 go_loopw [16] (fun i wr => ∃ k : Nat, i = .int .i64 (k : Int) /\ k <= n /\ Hid (Below W0.heap.size W0 wr)) (fun i _ => n - (intOf i).toNat)
 case atStart => exact ⟨0, rfl, Nat.zero_le _, Below.refl _ _⟩
 case round =>
  obtain ⟨k, rfl, hk, hbw⟩ := hrel; have zwr := hbw.out.size; have HBw : Hid (Below w.heap.size w wr) := HB0.out.trans (hbw.out.mono HB0.out.size); clear c0 c1 c2 c3 c4 c5 c6 c7 c8; obtain ⟨c0, c1, c2, c3, c4, c5, c6, c7, c8⟩ := (HK.out.below hbw.out zk).nine; by_cases hlt : k < n
  . have hlz : (k : Int) < (n : Int) := by omega
    obtain ⟨bb, off, d, rfl, hbB, hd, y0, y1⟩ := (HP.out.below HBw.out hB).dg hlt; have HD := ah hd; have hdz := mr (HPS.out.nz d (List.mem_of_getElem? hd)); have HNI : Hid (d ∉ pars.take k) := fun hm => by
     obtain ⟨j, hj, e⟩ := List.getElem_of_mem hm; rw [List.getElem_take] at e; have h1 := List.getElem?_eq_some_iff.1 HD.out; rw [List.length_take] at hj; have := (List.getElem_inj (h₀ := by omega) (h₁ := h1.1) HPS.out.nod).1 (e.trans h1.2.symm); omega
    obtain ⟨d1, d2⟩ := d; simp only at y0 y1 hdz; obtain ⟨wb, hwb⟩ : ∃ wb, wr.alloc (.cells #[.int .u64 d1, .int .u64 d2] 42) = wb := ⟨_, rfl⟩
    have HBb : Hid (Below wr.heap.size wr wb) := by rw [<- hwb]; exact (Below.refl _ wr).alloc ai _
    have HKb : Hid (Bk wb wr.heap.size 42 #[.int .u64 d1, .int .u64 d2]) := by rw [<- hwb]; exact Bk.new wr _ _
    have zwb : wb.heap.size = wr.heap.size + 1 := by rw [<- hwb]; simp
    have HBwb : Hid (Below w.heap.size w wb) := HBw.out.trans (HBb.out.mono (by omega)); have HCO : Hid (∀ Z, Below wb.heap.size wb Z -> Calls Tryz.prog 161 #[.slice (some ⟨bb, off, none⟩) k pc, .agg #[.int .u64 d1, .int .u64 d2]] Z fun e w' => e = .returned (.bool false) /\ Below Z.heap.size Z w') := fun Z hZ => by
     have hs : Sl Z B 2 (some ⟨bb, off, none⟩) k (flat dgC (pars.take k)) := by
      have h1 := (HP.out.below HBwb.out hB).below hZ (by have := HBwb.out.size; omega); refine ⟨by rw [gq aS, List.length_take, HL.out]; rw [Nat.min_eq_left (by omega)], fun h0 => ?_⟩; obtain ⟨b', o', e1, e2, e3⟩ := h1.2 (by omega); refine ⟨b', o', e1, e2, fun j u hu => e3 j u ?_⟩; rw [nK aS] at hu; have hjl := (List.getElem?_eq_some_iff.1 hu).1; rw [List.getElem?_take, if_pos (by rw [List.length_take] at hjl; omega)] at hu; exact hu
     have h := zn (some ⟨bb, off, none⟩) k pc B (pars.take k) (d1, d2) Z hs (by have := hZ.size; have := HBwb.out.size; omega) (by omega); rw [decide_eq_false HNI.out] at h; exact h
    have b0 := HKb.out.cell 0; have b1 := HKb.out.cell 1; simp at b0 b1; have e5 := (HK.out.below (hbw.out.trans (HBb.out.mono zwr)) zk).nine.2.2.2.2.2.1; have hsl : ∀ Z : World, (Instr.sliceAt 24 (.slice (some ⟨bb, off, none⟩) n pc) none (some (.int .i64 k)) none).run Tryz.prog Z = .ok (.slice (some ⟨bb, off, none⟩) k pc) Z := fun Z => by
     obtain ⟨i0, hi0, _⟩ := info_parts ik; exact kG 24 i0 Tryz.underlying24 hi0 _ n pc k (by omega) Z
    have HWb := ah hwb; clear hd hwb
    go_upto_region 10 with fail
    rw [HWb.out]; refine eu 5 (24 :: 25 :: 26 :: 27 :: 28 :: []) (by kernel_rfl) (by kernel_rfl) (by kernel_rfl) (fun W => Below wb.heap.size wb W) (fun W W' => Below W.heap.size W W')
     (gN ((.pointer (some ⟨w.heap.size, 5, none⟩)) :: (.slice (some ⟨bb, off, none⟩) n pc) :: (.int .i64 (k : Int)) :: (.slice (some ⟨bb, off, none⟩) k pc) :: (.agg #[.int .u64 d1, .int .u64 d2]) :: [])) (fun W W' h1 h2 => h1.trans (h2.mono h1.size)) (fun i v W W' h _ => h) (Below.refl _ _).drew ?stepC ?tailC
    case stepC =>
     intro i o vs W hi ho hv hR hphi; obtain ⟨v0, v1, v2, v3, v4, rfl⟩ := ls5 hv; simp only [List.zip, List.zipWith, aG, Act.put, List.setIfInBounds_toArray, List.set]; have hWz := hR.size; have g5 := (hR.cell (p := ⟨w.heap.size, 5, none⟩) (by show w.heap.size < _; omega)).trans e5; have g0 := (hR.cell (p := ⟨wr.heap.size, 0, none⟩) (by show wr.heap.size < _; omega)).trans b0; have g1 := (hR.cell (p := ⟨wr.heap.size, 1, none⟩) (by show wr.heap.size < _; omega)).trans b1
     match i, hi, ho with
     | 0, _, rfl =>
       exact .inl ⟨rfl, ax (v := .pointer (some ⟨w.heap.size, 5, none⟩)) (w' := W) (by go_simp) ⟨Below.refl _ _, fun _ => aA⟩⟩
     | 1, _, rfl =>
       have e0 : v0 = _ := hphi ⟨0, .data⟩ (by simp) rfl v0 rfl _ rfl; subst e0; exact .inl ⟨rfl, ax (v := .slice (some ⟨bb, off, none⟩) n pc) (w' := W) (by go_simp) ⟨Below.refl _ _, fun _ => aA⟩⟩
     | 2, _, rfl =>
       exact .inl ⟨rfl, ax (v := .int .i64 (k : Int)) (w' := W) (by go_simp) ⟨Below.refl _ _, fun _ => aA⟩⟩
     | 3, _, rfl =>
       have e1 : v1 = _ := hphi ⟨1, .data⟩ (by simp) rfl v1 rfl _ rfl; have e2 : v2 = _ := hphi ⟨2, .data⟩ (by simp) rfl v2 rfl _ rfl; subst e1 e2; exact .inl ⟨rfl, ax (v := .slice (some ⟨bb, off, none⟩) k pc) (w' := W) (by go_simp) ⟨Below.refl _ _, fun _ => aA⟩⟩
     | 4, _, rfl =>
       exact .inl ⟨rfl, ax (v := .agg #[.int .u64 d1, .int .u64 d2]) (w' := W) (by go_simp) ⟨Below.refl _ _, fun _ => aA⟩⟩
     | i + 5, hi, _ => exact absurd hi (by omega)
    case tailC =>
     intro vs W hv hR hphi; obtain ⟨v0, v1, v2, v3, v4, rfl⟩ := ls5 hv; simp only [List.zip, List.zipWith, aG, Act.put, List.setIfInBounds_toArray, List.set, List.drop]; have e0 : v0 = _ := hphi 0 v0 rfl _ rfl; have e1 : v1 = _ := hphi 1 v1 rfl _ rfl; have e2 : v2 = _ := hphi 2 v2 rfl _ rfl; have e3 : v3 = _ := hphi 3 v3 rfl _ rfl; have e4 : v4 = _ := hphi 4 v4 rfl _ rfl; subst e0 e1 e2 e3 e4; clear hphi hv; have HBz : Hid (Below W0.heap.size W0 W) := hbw.out.trans ((HBb.out.trans (hR.mono (by omega))).mono zwr); have HR := ah hR; clear hR
     go_wp2_with (first | (go_at_call 161; refine (HCO.out _ HR.out).mono ?_; rintro e w3 ⟨rfl, hb3⟩; refine aI ?_))
     refine aC ?_; have HB3 : Hid (Below W0.heap.size W0 w3) := HBz.out.trans (hb3.mono HBz.out.size); clear hb3; go_wp2_with fail; go_roundw
     case rel => exact ⟨k + 1, by go_num, hlt, HB3.out⟩
     case measure => simp [intOf]; omega
  . have hlz : ¬ (k : Int) < (n : Int) := by omega
    go_wp2_with (first | (go_at_call 133; refine (kR auth _ (by unfold maxLen; omega)).mono ?_; rintro e w1 ⟨rfl, rfl⟩; rw [hau]))
    go_ret
    exact ⟨rfl, HBw.out⟩
theorem NoC.flds {o : Ob} (h : NoC o) : o.tree = (0, 0) /\ o.pars.length = 0 /\ o.auth = ⟨#[]⟩ /\ o.time = 0 /\ o.msg = ⟨#[]⟩ := ⟨h.tree, by rw [h.pars]; rfl, h.auth, h.time, h.msg⟩
theorem zK (o : Ob) (s : Osl) (B : Nat) (w : World) (hm : ObM w B o s) (hB : B <= w.heap.size) (hf : OkF o) :
  Calls Tryz.prog 112 #[obV o s] w fun e w' => e = .returned (.int .i64 0) /\ Below w.heap.size w w' := by
 obtain ⟨W0, hW⟩ : ∃ W, w.alloc (.cells (obC o s) 75) = W := ⟨_, rfl⟩
 have HB0 : Hid (Below w.heap.size w W0) := by rw [<- hW]; exact (Below.refl _ w).alloc ai _
 have HK : Hid (Bk W0 w.heap.size 75 (obC o s)) := by rw [<- hW]; exact Bk.new w _ _
 have hm0 := hm.below (HB0.out.mono hB) ai; have hel := hm.elen; have hpl := hm.plen; cases hf with
 | blob k e c d =>
   obtain ⟨h1, h2, h3, h4, h5⟩ := c.flds; have he0 : s.en = 0 := by rw [<- hel, e]; rfl
   have hp0 : s.pn = 0 := by rw [<- hpl]; exact h2
   obtain ⟨kind, data, ents, tree, pars, auth, time, msg⟩ := o; obtain ⟨eA, en, ec, pA, n, pc⟩ := s; simp only at h1 h3 h4 h5 he0 hp0 k; subst h1 h3 h4 h5 he0 hp0; simp only [obV, obC] at hW HK ⊢; obtain ⟨c0, c1, c2, c3, c4, c5, c6, c7, c8⟩ := HK.out.nine; clear hm hm0 hel hpl e c d h2; rcases k with rfl | rfl
   all_goals
    go_enter Tryz.func112, Tryz.ntmps112
    go_wp2
    go_ret
    exact ⟨rfl, HB0.out⟩
 | tree k d c e =>
   obtain ⟨h1, h2, h3, h4, h5⟩ := c.flds; have hp0 : s.pn = 0 := by rw [<- hpl]; exact h2
   have HE := ah (zC s.eA s.en s.ec B o.ents W0 hm0.e (by have := HB0.out.size; omega) e); obtain ⟨kind, data, ents, tree, pars, auth, time, msg⟩ := o; obtain ⟨eA, en, ec, pA, n, pc⟩ := s; simp only at h1 h3 h4 h5 hp0 k d HE; subst h1 h3 h4 h5 hp0 k d; simp only [obV, obC] at hW HK ⊢; obtain ⟨c0, c1, c2, c3, c4, c5, c6, c7, c8⟩ := HK.out.nine; clear hm hm0 hel hpl e c h2
   go_enter Tryz.func112, Tryz.ntmps112
   go_wp2_with (first | (go_at_call 138; refine HE.out.mono ?_; rintro e w1 ⟨rfl, hb⟩))
   all_goals
    go_ret
    exact ⟨rfl, HB0.out.trans (hb.mono HB0.out.size)⟩
 | commit k d e c =>
   have he0 : s.en = 0 := by rw [<- hel, e]; rfl
   have HC := ah (zG o s B W0 hm0 (by have := HB0.out.size; omega) c); have htz := mr c.nz; obtain ⟨kind, data, ents, ⟨t1, t2⟩, pars, auth, time, msg⟩ := o; obtain ⟨eA, en, ec, pA, n, pc⟩ := s; simp only at he0 k d htz; subst he0 k d; simp only [obV, obC] at hW HK HC ⊢; obtain ⟨c0, c1, c2, c3, c4, c5, c6, c7, c8⟩ := HK.out.nine; clear hm hm0 hel hpl e c
   go_enter Tryz.func112, Tryz.ntmps112
   go_wp2_with (first | (go_at_call 139; refine HC.out.mono ?_; rintro e w1 ⟨rfl, hb⟩))
   all_goals
    go_ret
    exact ⟨rfl, HB0.out.trans (hb.mono HB0.out.size)⟩
end Go.Proofs.YtlcecobipgmafaaGreatDoor
