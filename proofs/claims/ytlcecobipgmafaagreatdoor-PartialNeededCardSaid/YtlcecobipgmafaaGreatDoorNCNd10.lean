/-
  Lemmas of the card.
-/
import Derived.LoopTactic
import Derived.Sort.LoopGhostIn
import Derived.Sort.MapsRangeIn
import Derived.Shelf.SlSortCmp.WholeK
import Derived.Shelf.SlSortCmp.NoneTotal
import Derived.Ground.SlsfProg
import Derived.Ground.NamesProg
import Derived.Test.YtlcecobipgmafaaGreatDoorProg
import Derived.Test.YtlcecobipgmafaaGreatDoorNCNd9
import Derived.Test.YtlcecobipgmafaaGreatDoorNCNd7
import Derived.Test.YtlcecobipgmafaaGreatDoorNCNd8
import Derived.Test.YtlcecobipgmafaaGreatDoorNCNd2
import Derived.Test.YtlcecobipgmafaaGreatDoorNCNd5
import Derived.Test.YtlcecobipgmafaaGreatDoorNCNd1
set_option maxRecDepth 100000
set_option maxHeartbeats 16000000
namespace Go.Proofs.YtlcecobipgmafaaGreatDoor
open Go.RowKit
section
open Go.Maps
theorem xy {α : Type} {w : World} {P : Program} {k : TypeId} {sb : α -> List UInt8} {ok : α -> Prop} {b r N cnt : Nat} {g : α -> Option Value} {left : α -> Bool} (h : GmR w P k sb ok b r N g left cnt) : cnt <= N := by
 obtain ⟨D, lf, ⟨es, clock, since, seen, c0, h1, F, hs, hD, h3, _, h4, _⟩, _⟩ := h; rw [<- h4]; refine Nat.le_trans ?_ hs; unfold leftOf; exact Array.size_filter_le
theorem GmR.rlt {α : Type} {w : World} {P : Program} {k : TypeId} {sb : α -> List UInt8} {ok : α -> Prop} {b r N cnt : Nat} {g : α -> Option Value} {left : α -> Bool} (h : GmR w P k sb ok b r N g left cnt) : r < w.heap.size := by
 obtain ⟨D, lf, ⟨es, clock, since, seen, c0, h1, F, hs, hD, h3, _⟩, _⟩ := h; exact (Array.getElem?_eq_some_iff.1 h3).1
theorem GmR.rNot {α : Type} {w : World} {P : Program} {k t : TypeId} {sb : α -> List UInt8} {ok : α -> Prop} {b r N cnt : Nat} {g : α -> Option Value} {left : α -> Bool} (h : GmR w P k sb ok b r N g left cnt) : ¬ isRow t w.heap[r]? := by
 obtain ⟨D, lf, ⟨es, clock, since, seen, c0, h1, F, hs, hD, h3, _⟩, _⟩ := h; rw [h3]; exact fun h => h
theorem wW {d : Dig} (h : bG d) : WfD d := by
 have e : ∀ x : Int, (Lit.int .u64 x).wf = true -> 0 <= x /\ x < 18446744073709551616 := fun x hx => by
  have h1 : (decide (IntKind.u64.min <= x) && decide (x <= IntKind.u64.max)) = true := hx; rw [show IntKind.u64.min = 0 from rfl, show IntKind.u64.max = 18446744073709551615 from rfl, Bool.and_eq_true, decide_eq_true_iff, decide_eq_true_iff] at h1; omega
 exact ⟨(e _ h.1).1, (e _ h.1).2, (e _ h.2).1, (e _ h.2).2⟩
theorem pQ {o : Ob} (h : OkO o) : WfD o.tree := by
 cases h.f with
 | blob _ _ c _ => rw [c.tree]; exact ja
 | tree _ _ c _ => rw [c.tree]; exact ja
 | commit _ _ _ c => exact c.wf
theorem gQ {o : Ob} (h : OkO o) : o.pars.length <= 8 /\ ∀ d ∈ o.pars, WfD d := by
 cases h.f with
 | blob _ _ c _ => rw [c.pars]; exact ⟨by simp, fun d h => by cases h⟩
 | tree _ _ c _ => rw [c.pars]; exact ⟨by simp, fun d h => by cases h⟩
 | commit _ _ _ c => exact ⟨c.pars.few, c.pars.wf⟩
theorem qF {p : List Itm} {hs : List Dig} {stop : Dig -> Prop} (hp : PlOk p) (hh : ∀ h ∈ hs, WfD h) {n : Nat} {d : Dig} (h : Lv p hs stop n d) : WfD d := by
 cases h with
 | head h => exact hh d h
 | par _ g _ _ m => exact (gQ (mh hp g)).2 d m
theorem qB {p : List Itm} {hs : List Dig} {stop : Dig -> Prop} {dep : Int} (hp : PlOk p) (hh : ∀ h ∈ hs, WfD h) {d : Dig} (h : NC p hs stop dep d) : WfD d := by
 obtain ⟨n, h1, _⟩ := h; exact qF hp hh h1
def edJ (com : Dig -> Bool) (e : Dig -> Bool) (c : Dig) (l : List Dig) : Dig -> Bool := if l.any (fun x => !com x) = true then aK e c else e
theorem Ei (com e : Dig -> Bool) (c : Dig) : edJ com e c [] = e := by unfold edJ; rw [if_neg (by simp)]
theorem BX {com e : Dig -> Bool} {c x : Dig} {l : List Dig} (h : com x = true) : edJ com e c (l ++ [x]) = edJ com e c l := by
 unfold edJ; rw [List.any_append, List.any_cons, List.any_nil, h, Bool.not_true, Bool.or_false, Bool.or_false]
theorem Ex {com e : Dig -> Bool} {c x : Dig} {l : List Dig} (h : com x = false) : aK (edJ com e c l) c = edJ com e c (l ++ [x]) := by
 unfold edJ; rw [List.any_append]; simp only [List.any_cons, List.any_nil, h, Bool.not_false, Bool.or_false, Bool.or_true, if_true]; split
 . funext y; unfold aK; by_cases hy : y = c <;> simp [hy]
 . rfl
theorem DR {p : List Itm} {com : Dig -> Bool} {pre : ByteArray} {s : WkS} {c : Dig} (h : (aL p s c 3).2 = none) : dA p com pre s c = (aL p s c 3).1 := by
 unfold dA; cases hg : aL p s c 3 with
 | mk s1 r => rw [hg] at h; simp only at h; subst h; rfl
theorem DV {p : List Itm} {com : Dig -> Bool} {pre : ByteArray} {s : WkS} {c : Dig} {o : Ob} (h : (aL p s c 3).2 = some o) : dA p com pre s c = { bH pre (aL p s c 3).1 o.tree nB with ed := edJ com (bH pre (aL p s c 3).1 o.tree nB).ed c o.pars } := by
 unfold dA; cases hg : aL p s c 3 with
 | mk s1 r =>
   rw [hg] at h; simp only at h; subst h; simp only; unfold edJ; split <;> rfl
theorem D8 (pre : ByteArray) (s : WkS) (d : Dig) (q : ByteArray) : (bH pre s d q).op.length <= s.op.length + 1 := by
 have hp : ∀ x, (bY s x).op.length <= s.op.length + 1 := fun x => by unfold bY; split <;> simp
 unfold bH; split
 . exact hp _
 . split
   . exact hp _
   . omega
theorem EG (p : List Itm) (s : WkS) (d : Dig) (k : Int) : (aL p s d k).1.op = s.op := by
 unfold aL; split
 . rfl
 . split <;> rfl
theorem WkI.weak {p : List Itm} {hs : List Dig} {stop : Dig -> Prop} {dep : Int} {pre : ByteArray} {com : Dig -> Bool} {dn dn' : Dig -> Prop} {s : WkS} (h : WkI p hs stop dep pre com dn s) (hd : ∀ c, dn' c -> dn c) : WkI p hs stop dep pre com dn' s :=
 ⟨h.snd, fun c hc => h.cdn c (hd c hc), h.dnp⟩
section
variable {w w' : World} {base : Nat} {k : Wkb} {com : Dig -> Bool} {Nc N : Nat} {s : WkS} {d : Dig}
theorem WkM.setEd (h : WkM w base k com Nc N s) (D : WkD base k) (hS : Sd w' k.be (N + 1) (aK s.ed d)) (hg : w.grownBy w' (some k.be)) : WkM w' base k com Nc (N + 1) { s with ed := aK s.ed d } := by
 obtain ⟨a1, a2, a3, a4⟩ := h.apart; obtain ⟨oA, oc, h1, h2, h3⟩ := h.box; have hed := h.ed; exact ⟨⟨oA, oc, h1.grown hg (fun e => a3 (Option.some.inj e)), h2.grown14 hg (fun cs => hed.notCells), h3⟩, h.com.kept hg (fun e => D.ce (Option.some.inj e)), (h.ne.kept hg (fun e => D.ne (Option.some.inj e))).more (by omega), hS, (h.me.kept hg (fun e => D.em (Option.some.inj e).symm)).more (by omega)⟩
theorem GmR.wkf {r cnt : Nat} {left : Dig -> Bool} (h : GmR w Tryz.prog 42 dO bG k.bc r Nc (sv com) left cnt) (hM : WkM w base k com Nc N s) (D : WkD base k) (hF : WkF base k w w') (hb : r ≠ k.b) (hn : r ≠ k.bn) (he : r ≠ k.be) (hm : r ≠ k.bm) :
  GmR w' Tryz.prog 42 dO bG k.bc r Nc (sv com) left cnt := by
 obtain ⟨a1, a2, a3, a4⟩ := hM.apart; refine h.blocks (hF.block _ hM.com.lt fun ⟨_, h2⟩ => ?_) (hF.block _ h.rlt fun ⟨_, h2⟩ => ?_)
 . rcases h2 with h2 | h2 | h2 | h2 | h2
   . exact a1 h2.symm
   . exact D.cn h2
   . exact D.ce h2
   . exact D.cm h2
   . exact ig hM.com h2
 . rcases h2 with h2 | h2 | h2 | h2 | h2
   . exact hb h2
   . exact hn h2
   . exact he h2
   . exact hm h2
   . exact h.rNot h2
theorem WkM.iter (h : WkM w base k com Nc N s) {r : Nat} (hg : w.grownBy w' (some r)) (hb : r ≠ k.b) (hc : r ≠ k.bc) (hn : r ≠ k.bn) (he : r ≠ k.be) (hm : r ≠ k.bm) (hr : ¬ isRow 132 w.heap[r]?) : WkM w' base k com Nc N s := by
 obtain ⟨oA, oc, h1, h2, h3⟩ := h.box; have ne : ∀ {x}, r ≠ x -> some x ≠ some r := fun h e => h (Option.some.inj e).symm; exact ⟨⟨oA, oc, h1.grown hg (ne hb), h2.grown14 hg (fun cs e => hr (by rw [e]; exact rfl)), h3⟩, h.com.kept hg (ne hc), h.ne.kept hg (ne hn), h.ed.kept hg (ne he), h.me.kept hg (ne hm)⟩
theorem WkF.iter {w0 : World} (h : WkF base k w0 w) {r : Nat} (hg : w.grownBy w' (some r)) (hr : w0.heap.size <= r) : WkF base k w0 w' :=
 ⟨hg.os.trans h.os, hg.tape.trans h.tape, hg.output.trans h.output, Nat.le_trans h.size hg.size, fun i hi hn => (hg.block i (Nat.lt_of_lt_of_le hi h.size) (fun e => by have := Option.some.inj e; omega)).trans (h.block i hi hn)⟩
theorem ObW.wkf {lo : Nat} {o : Ob} {sl : Osl} (h : ObW w lo o sl) (hF : WkF base k w w') (hb : k.b < lo) (hn : k.bn < lo) (he : k.be < lo) (hm : k.bm < lo) : ObW w' lo o sl := by
 have key : ∀ {g : Nat} {cur : Array Value} {t : TypeId}, lo <= g -> w.heap[g]? = some (.cells cur t (0, 0)) -> t ≠ 132 -> ¬ wkT base k w g := fun hl hg ht ⟨_, h2⟩ => by
  rcases h2 with h2 | h2 | h2 | h2 | h2
  . omega
  . omega
  . omega
  . omega
  . rw [hg] at h2; exact ht h2
 have hk : ∀ {g : Nat} {cur : Array Value} {t : TypeId}, lo <= g -> w.heap[g]? = some (.cells cur t (0, 0)) -> t ≠ 132 -> w'.heap[g]? = w.heap[g]? := fun hl hg ht => hF.block _ (Array.getElem?_eq_some_iff.1 hg).1 (key hl hg ht); refine ⟨⟨(hF.sl h.m.e (fun ad h0 ha => ?_) ai).more hF.size, (hF.sl h.m.p (fun ad h0 ha => ?_) ai).more hF.size, h.m.ele, h.m.emx, h.m.ple, h.m.pmx⟩, fun a h1 h2 => ?_, fun a h1 h2 => ?_⟩
 . obtain ⟨h3, cur, h4⟩ := h.e ad h0 ha; exact key h3 h4 (by decide)
 . obtain ⟨h3, cur, h4⟩ := h.p ad h0 ha; exact key h3 h4 (by decide)
 . obtain ⟨h3, cur, h4⟩ := h.e a h1 h2; exact ⟨h3, cur, (hk h3 h4 (by decide)).trans h4⟩
 . obtain ⟨h3, cur, h4⟩ := h.p a h1 h2; exact ⟨h3, cur, (hk h3 h4 (by decide)).trans h4⟩
end
theorem pJ {s : Dig -> Bool} {d : Dig} {v : Value} (h : sv s d = some v) : s d = true := by
 unfold sv at h; split at h
 . assumption
 . cases h
def WvE (base : Nat) (k : Wkb) (com : Dig -> Bool) (Nc N : Nat) (p : List Itm) (hs : List Dig) (stop : Dig -> Prop) (dep : Int) (L : Nat) (w : World) (e : Ending) (w' : World) : Prop :=
 (∃ v, e = .returned v) /\ ∃ s' N', WkM w' base k com Nc N' s' /\ N' <= N + 10 * Nc /\ s'.op.length <= L + Nc /\ WkF base k w w' /\ WkI p hs stop dep k.pre com (fun d => com d = true) s'
theorem DX (base : Nat) (k : Wkb) (com : Dig -> Bool) (Nc N : Nat) (s : WkS) (p : List Itm) (hs : List Dig) (stop : Dig -> Prop) (dep : Int) (w : World) (hM : WkM w base k com Nc N s) (hD : WkD base k) (hp : Sl w base 3 k.pA k.pn (flat itC p)) (hbw : base <= w.heap.size) (hpo : PlOk p) (hpn : k.pn <= 1000000)
  (hI : WkI p hs stop dep k.pre com (fun _ => False) s) (hcom : ∀ d, com d = true ↔ NC p hs stop dep d) (hh : ∀ h ∈ hs, WfD h) (hN : N + 10 * Nc <= 100000000) (hop : s.op.length + Nc <= 2000000) (hpr : k.pre.size <= maxLen) :
  Calls Tryz.prog 49 #[.pointer (some ⟨k.b, 0, none⟩)] w (WvE base k com Nc N p hs stop dep s.op.length w) := by
 have HD := ah hD; have HPO := ah hpo; have HCOM := ah hcom; have HH := ah hh; have HP := ah hp; have HM := ah hM; have HI := ah hI; have hl := hM.lt; have HPRE := ah hpr; obtain ⟨oA, oc, hbx, _⟩ := hM.box; have HBX := ah hbx; have HR0 := ah hM.com; obtain ⟨L, hL⟩ : ∃ L, s.op.length = L := ⟨_, rfl⟩
 have HLL := ah hL; have hkbe := hD.be; rw [hL] at hop ⊢; clear hM hD hp hpo hI hcom hh hbx hpr hL; obtain ⟨b, pA, pn, pc, pre, bc, bn, be, bm⟩ := k; unfold wkC at HBX; simp only at hl HBX HR0 HPRE HP hpn hkbe ⊢; obtain ⟨hl0, hl1, hl2, hl3, hl4⟩ := hl; have c2 := HBX.out.cell 2; simp at c2
 go_enter Tryz.func49, Tryz.ntmps49
 go_wp2_with (at_range; refine aI ?_)
 refine aC ?_; refine rz rfl _ 63 rfl 42 4 fD Tryz.underlying63 bc Nc (sv com) rfl HR0.out ?_; intro w1 cnt0 hr1 hg1 hz1; have hc0 := xy hr1; have hb1 : Below w.heap.size w w1 := tJ hg1; have HM1 := ah (HM.out.below hb1); have HF1 : Hid (WkF base ⟨b, pA, pn, pc, pre, bc, bn, be, bm⟩ w w1) := WkF.of_below hb1; have HR1 := ah hr1; clear hr1 hg1 hb1 c2 HM HBX HR0
 go_wp2
 go_frame
 go_loopw [] (fun wr => ∃ (left : Dig -> Bool) (cnt Ns : Nat) (s' : WkS), Hid (WkM wr base ⟨b, pA, pn, pc, pre, bc, bn, be, bm⟩ com Nc Ns s') /\ Hid (WkF base ⟨b, pA, pn, pc, pre, bc, bn, be, bm⟩ w wr) /\ Hid (GmR wr Tryz.prog 42 dO bG bc w.heap.size Nc (sv com) left cnt) ∧
  Hid (WkI p hs stop dep pre com (fun d => com d = true /\ left d = false) s') /\ Ns + 10 * cnt <= N + 10 * Nc /\ s'.op.length + cnt <= L + Nc /\ w.heap.size < wr.heap.size) (fun wr => wr.rangeLeft bc w.heap.size)
 case atStart =>
  refine ⟨_, cnt0, N, s, HM1.out, HF1.out, HR1.out, HI.out.weak (fun c h => ?_), by omega, by have := HLL.out; omega, by omega⟩; have := h.2; rw [pz, h.1] at this; cases this
 case round =>
  obtain ⟨left, cnt, Ns, s1, hM, hF, hR, hI, hn, ho, hz⟩ := hrel; have HMS := ah hR.out.left_; have HM := ah hM.out; have HF := ah hF.out; have HIs := ah hI.out; clear hM hF hI HM1 HF1 HR1 HI
  go_wp2_with (at_next; refine aI ?_)
  refine aC ?_; refine rJ rfl _ rfl 42 fD bc w.heap.size Nc (sv com) left cnt rfl hR.out ?_ ?_
  . intro hdone
    have HE : Hid (WkI p hs stop dep pre com (fun d => com d = true) s1) := HIs.out.weak (fun c hc => ⟨hc, hdone c (dF (qB HPO.out HH.out ((HCOM.out c).1 hc)))⟩); clear hdone; go_wp2_with fail
    go_end0
    exact ⟨⟨_, rfl⟩, s1, Ns, HM.out, by omega, by omega, HF.out, HE.out⟩
  . intro d v w2 cnt2 hok hls hgs hR2 hlt hg2 hz2 hen
    have HCD : Hid (com d = true) := pJ hgs; have HDW := ah (wW hok); have HR2 : Hid (GmR w2 Tryz.prog 42 dO bG bc w.heap.size Nc (sv com) (fun z => left z && !decide (z = d)) cnt2) := hR2; have hrn : ¬ isRow 132 wr.heap[w.heap.size]? := hR.out.rNot; have HM2 : Hid (WkM w2 base ⟨b, pA, pn, pc, pre, bc, bn, be, bm⟩ com Nc Ns s1) := HM.out.iter hg2 (by show w.heap.size ≠ b; omega) (by show w.heap.size ≠ bc; omega) (by show w.heap.size ≠ bn; omega) (by show w.heap.size ≠ be; omega) (by show w.heap.size ≠ bm; omega) hrn; have HF2 : Hid (WkF base ⟨b, pA, pn, pc, pre, bc, bn, be, bm⟩ w w2) := HF.out.iter hg2 ai; have HC2 : Hid (WkI p hs stop dep pre com (fun x => com x = true /\ (left x && !decide (x = d)) = false) (dA p com pre s1 d)) := (HIs.out.comm ((HCOM.out d).1 HCD.out) HCOM.out).weak (fun c ⟨h1, h2⟩ => by
     by_cases e : c = d
     . exact .inr e
     . exact .inl ⟨h1, by simpa [e] using h2⟩)
    have hz2' : w.heap.size < w2.heap.size := by omega
    obtain ⟨d1, d2⟩ := d; simp only [dgV] at hen; clear hR2 hR hrn hg2 hls hgs hok HM HF hz2; obtain ⟨W3, hW3⟩ : ∃ W, w2.alloc (.cells #[.int .u64 d1, .int .u64 d2] 42) = W := ⟨_, rfl⟩
    have HK3 : Hid (Bk W3 w2.heap.size 42 #[.int .u64 d1, .int .u64 d2]) := by rw [<- hW3]; exact Bk.new w2 _ _
    have HB3 : Hid (Below w2.heap.size w2 W3) := by rw [<- hW3]; exact (Below.refl _ w2).alloc ai _
    have HM3 := ah (HM2.out.below HB3.out); have HR3 := ah (HR2.out.below HB3.out (by omega) hz2'); have HF3 : Hid (WkF base ⟨b, pA, pn, pc, pre, bc, bn, be, bm⟩ w W3) := HF2.out.trans (WkF.of_below HB3.out); have zW3 : w2.heap.size < W3.heap.size := HK3.out.lt; have hb3 : base <= W3.heap.size := by omega
    have HP3 := ah (HP.out.below (HF3.out.below hbw) ai); have HG := ah (ou base ⟨b, pA, pn, pc, pre, bc, bn, be, bm⟩ com Nc Ns s1 p (d1, d2) 3 W3 HM3.out HD.out HP3.out hb3 HPO.out hpn (by unfold maxLen; omega) HDW.out); unfold WgE at HG; simp only [az] at HG; obtain ⟨q0, q1, _, _⟩ := HK3.out.two; clear HM2 HR2 HF2 HB3; go_wp2_with fail; refine HG.out.mono ?_; rintro e w4 ⟨hq, hM4, hF4, _⟩; have HM4 := ah hM4; have HR4 : Hid (GmR w4 Tryz.prog 42 dO bG bc w.heap.size Nc (sv com) (fun z => left z && !decide (z = (d1, d2))) cnt2) := (HR3.out.wkf HM3.out HD.out hF4 (by show w.heap.size ≠ b; omega) (by show w.heap.size ≠ bn; omega) (by show w.heap.size ≠ be; omega) (by show w.heap.size ≠ bm; omega))
    have HF4 : Hid (WkF base ⟨b, pA, pn, pc, pre, bc, bn, be, bm⟩ w w4) := HF3.out.trans hF4; have HK4 : Hid (Bk w4 w2.heap.size 42 #[.int .u64 d1, .int .u64 d2]) := hF4.row HK3.out (by decide) (by show w2.heap.size ≠ b; omega) (by show w2.heap.size ≠ bn; omega) (by show w2.heap.size ≠ be; omega) (by show w2.heap.size ≠ bm; omega); have z4 : W3.heap.size <= w4.heap.size := hF4.size; have HSO : Hid ((aL p s1 (d1, d2) 3).1.op.length = s1.op.length) := by show _ = _; rw [EG]
    clear hM4 hF4 HG q0 q1 hW3 HM3 HR3 HF3 HK3 hen; rcases hq with ⟨o, sl, hg, hok, rfl, hob⟩ | ⟨hg, o, sl, rfl⟩
    case inr =>
     have HCS := ah (DR (com := com) (pre := pre) hg); rw [HCS.out] at HC2; clear hg HCS; simp only [obV, obC]; obtain ⟨W5, hW5⟩ : ∃ W, w4.alloc (.cells #[.int .i64 o.kind, .string o.data, .slice sl.eA sl.en sl.ec, .int .u64 o.tree.1, .int .u64 o.tree.2, .slice sl.pA sl.pn sl.pc, .string o.auth, .int .i64 o.time, .string o.msg] 75) = W := ⟨_, rfl⟩
     have HB5 : Hid (Below w4.heap.size w4 W5) := by rw [<- hW5]; exact (Below.refl _ w4).alloc ai _
     have HR5 := ah (HR4.out.below HB5.out (by omega) (by omega)); have HMS2 := ah HR5.out.left_; have z5 := HB5.out.size; go_wp2_with fail; go_roundw
     case rel => exact ⟨_, cnt2, Ns + 1, _, HM4.out.below HB5.out, HF4.out.trans (WkF.of_below HB5.out), HR5.out, HC2.out, by omega, by rw [HSO.out]; omega, by omega⟩
     case measure => rw [HMS.out, HMS2.out]; exact hlt
    case inl =>
     have HCS := ah (DV (com := com) (pre := pre) hg); rw [HCS.out] at HC2; have HOK := ah hok; have HTW := ah (pQ hok); obtain ⟨hp8, hpw⟩ := gQ hok; have HPW := ah hpw; obtain ⟨s2, hs2⟩ : ∃ s2, (aL p s1 (d1, d2) 3).1 = s2 := ⟨_, rfl⟩
     rw [hs2] at HC2 HM4 HSO; have hso := HSO.out; clear hg hok HCS hpw hs2; obtain ⟨kd, dat, ents, ⟨t1, t2⟩, pars, auth, time, msg⟩ := o; obtain ⟨eA2, en2, ec2, pA2, pn2, pc2⟩ := sl; simp only at HC2 HTW HPW hp8; simp only [obV, obC]; obtain ⟨W5, hW5⟩ : ∃ W, w4.alloc (.cells #[.int .i64 kd, .string dat, .slice eA2 en2 ec2, .int .u64 t1, .int .u64 t2, .slice pA2 pn2 pc2, .string auth, .int .i64 time, .string msg] 75) = W := ⟨_, rfl⟩
     have HT5 : Hid (Bk W5 w4.heap.size 75 #[.int .i64 kd, .string dat, .slice eA2 en2 ec2, .int .u64 t1, .int .u64 t2, .slice pA2 pn2 pc2, .string auth, .int .i64 time, .string msg]) := by rw [<- hW5]; exact Bk.new w4 _ _
     have HB5 : Hid (Below w4.heap.size w4 W5) := by rw [<- hW5]; exact (Below.refl _ w4).alloc ai _
     have HM5 := ah (HM4.out.below HB5.out); have HR5 := ah (HR4.out.below HB5.out (by omega) (by omega)); have HF5 : Hid (WkF base ⟨b, pA, pn, pc, pre, bc, bn, be, bm⟩ w W5) := HF4.out.trans (WkF.of_below HB5.out); have HK5 := ah (HK4.out.below HB5.out HK4.out.lt); have HO5 := ah (hob.bel HB5.out); have HPL := ah hob.m.plen; have z5 : w4.heap.size < W5.heap.size := HT5.out.lt; simp only at HPL; have HC := ah (vg base ⟨b, pA, pn, pc, pre, bc, bn, be, bm⟩ com Nc (Ns + 1) s2 (t1, t2) nB W5 HM5.out HD.out (by omega) (by unfold maxLen; omega) HTW.out HPRE.out (by omega)); unfold WdE nB at HC; simp only [az] at HC; obtain ⟨g0, g1, g2, g3, g4, g5, g6, g7, g8⟩ := HT5.out.nine; clear hob HM4 HR4 HF4 HK4 HB5; go_wp2_with fail; refine HC.out.mono ?_; rintro e w6 ⟨⟨v6, rfl⟩, hM6, hF6, _⟩; have HM6 : Hid (WkM w6 base ⟨b, pA, pn, pc, pre, bc, bn, be, bm⟩ com Nc (Ns + 1 + 1) (bH pre s2 (t1, t2) nB)) := hM6; have HR6 : Hid (GmR w6 Tryz.prog 42 dO bG bc w.heap.size Nc (sv com) (fun z => left z && !decide (z = (d1, d2))) cnt2) := (HR5.out.wkf HM5.out HD.out hF6 (by show w.heap.size ≠ b; omega) (by show w.heap.size ≠ bn; omega) (by show w.heap.size ≠ be; omega) (by show w.heap.size ≠ bm; omega))
     have HF6 : Hid (WkF base ⟨b, pA, pn, pc, pre, bc, bn, be, bm⟩ w w6) := HF5.out.trans hF6; have HK6 : Hid (Bk w6 w2.heap.size 42 #[.int .u64 d1, .int .u64 d2]) := hF6.row HK5.out (by decide) (by show w2.heap.size ≠ b; omega) (by show w2.heap.size ≠ bn; omega) (by show w2.heap.size ≠ be; omega) (by show w2.heap.size ≠ bm; omega); have HT6 : Hid (Bk w6 w4.heap.size 75 #[.int .i64 kd, .string dat, .slice eA2 en2 ec2, .int .u64 t1, .int .u64 t2, .slice pA2 pn2 pc2, .string auth, .int .i64 time, .string msg]) := hF6.row HT5.out (by decide) (by show w4.heap.size ≠ b; omega) (by show w4.heap.size ≠ bn; omega) (by show w4.heap.size ≠ be; omega) (by show w4.heap.size ≠ bm; omega); have HO6 := ah (HO5.out.wkf hF6 (by show b < _; omega) (by show bn < _; omega) (by show be < _; omega) (by show bm < _; omega)); have z6 : W5.heap.size <= w6.heap.size := hF6.size; have hdo := D8 pre s2 (t1, t2) nB; obtain ⟨s3, hs3⟩ : ∃ s3, bH pre s2 (t1, t2) nB = s3 := ⟨_, rfl⟩
     rw [hs3] at HC2 HM6 hdo; clear hM6 hF6 HC g0 g1 g2 g3 g4 g5 g6 g7 g8 hW5 HM5 HR5 HF5 HK5 HO5 HT5 hs3; obtain ⟨g0, g1, g2, g3, g4, g5, g6, g7, g8⟩ := HT6.out.nine; have hpn63 : pn2 <= 8 := by rw [<- HPL.out]; exact hp8
     obtain ⟨wo, hwo⟩ : ∃ wo, wo = wr := ⟨_, rfl⟩
     subst hwo; go_wp2_with fail
     go_loopw [31] (fun i wr => ∃ (j Nj : Nat), j <= pn2 /\ i = .int .i64 (j : Int) /\ Hid (WkM wr base ⟨b, pA, pn, pc, pre, bc, bn, be, bm⟩ com Nc Nj { s3 with ed := edJ com s3.ed (d1, d2) (pars.take j) }) /\ Hid (WkF base ⟨b, pA, pn, pc, pre, bc, bn, be, bm⟩ w6 wr) /\ Nj <= Ns + 2 + j) (fun i _ => pn2 - (intOf i).toNat)
     case atStart => exact ⟨0, Ns + 1 + 1, Nat.zero_le _, rfl, by rw [List.take_zero, Ei]; exact HM6.out, WkF.refl _ _ _, by omega⟩
     case round =>
      obtain ⟨j, Nj, hj, rfl, hMj, hFj, hNj⟩ := hrel; have HMj := ah hMj.out; have HFj := ah hFj.out; have zj : w6.heap.size <= wr.heap.size := hFj.out.size; clear hMj hFj g0 g1 g2 g3 g4 g5 g6 g7 g8; have HKj : Hid (Bk wr w2.heap.size 42 #[.int .u64 d1, .int .u64 d2]) := HFj.out.row HK6.out (by decide) (by show w2.heap.size ≠ b; omega) (by show w2.heap.size ≠ bn; omega) (by show w2.heap.size ≠ be; omega) (by show w2.heap.size ≠ bm; omega); have HOj := ah (HO6.out.wkf HFj.out (by show b < _; omega) (by show bn < _; omega) (by show be < _; omega) (by show bm < _; omega)); by_cases hlt2 : j < pn2
      . obtain ⟨bb, off, x, hAx, hbB, hx, y0, y1⟩ := HOj.out.m.p.dg hlt2
        simp only at hAx hx; subst hAx; have hlz : (j : Int) < (pn2 : Int) := by omega
        have HX := ah hx; have HXW := ah (dF (HPW.out x (List.mem_of_getElem? hx))); have HTK := ah (bA hx); clear hx; obtain ⟨x1, x2⟩ := x; simp only at y0 y1; obtain ⟨W7, hW7⟩ : ∃ W, wr.alloc (.cells #[.int .u64 x1, .int .u64 x2] 42) = W := ⟨_, rfl⟩
        have HK7 : Hid (Bk W7 wr.heap.size 42 #[.int .u64 x1, .int .u64 x2]) := by rw [<- hW7]; exact Bk.new wr _ _
        have HB7 : Hid (Below wr.heap.size wr W7) := by rw [<- hW7]; exact (Below.refl _ wr).alloc ai _
        have HM7 := ah (HMj.out.below HB7.out); have HF7 : Hid (WkF base ⟨b, pA, pn, pc, pre, bc, bn, be, bm⟩ w6 W7) := HFj.out.trans (WkF.of_below HB7.out); have HD7 := ah (HKj.out.below HB7.out HKj.out.lt); obtain ⟨oA7, oc7, hbx7, _⟩ := HM7.out.box; have HBX7 := ah hbx7; unfold wkC at HBX7; simp only at HBX7; clear hbx7; have c2 := HBX7.out.cell 2; simp at c2; obtain ⟨r0, r1, _, _⟩ := HK7.out.two; have HLK : Hid (∀ n, (Instr.lookup 63 (.map (some bc)) (.agg #[.int .u64 x1, .int .u64 x2]) false).run Tryz.prog (W7.drewN n) = .ok (.bool (com (x1, x2))) (W7.drewN n)) := fun n => Sd.look (d := (x1, x2)) (HM7.out.com.below (aM (Below.refl W7.heap.size W7) n) HM7.out.com.lt) Tryz.underlying63 HXW.out; cases hcx : com (x1, x2) with
        | true =>
          have hlk := HLK.out; rw [hcx] at hlk; have HE := ah (BX (e := s3.ed) (c := (d1, d2)) (l := pars.take j) hcx); rw [<- HTK.out] at HE; clear hcx; go_wp2_with fail
          go_quiet (fail)
          go_wp2_with fail; go_roundw
          case rel => exact ⟨j + 1, Nj, hlt2, by go_num, by rw [HE.out]; exact HM7.out.below (aM (Below.refl _ _) _), HF7.out.trans (WkF.of_below (aM (Below.refl _ _) _)), by omega⟩
          case measure => simp [intOf]; omega
        | false =>
          have hlk := HLK.out; rw [hcx] at hlk; have HE := ah (Ex (e := s3.ed) (c := (d1, d2)) (l := pars.take j) hcx); rw [<- HTK.out] at HE; clear hcx; go_wp2_with fail
          go_quiet (fail)
          obtain ⟨w8, hw8⟩ : ∃ u, u = W7.drewN nq := ⟨_, rfl⟩
          have hbd : Below W7.heap.size W7 w8 := by rw [hw8]; exact aM (Below.refl _ _) _
          have HM8 := ah (HM7.out.below hbd); have HF8 : Hid (WkF base ⟨b, pA, pn, pc, pre, bc, bn, be, bm⟩ w6 w8) := HF7.out.trans (WkF.of_below hbd); have HD8 := ah (HD7.out.below hbd HD7.out.lt); have HBX8 := ah (HBX7.out.below hbd HBX7.out.lt); rw [<- hw8]; clear hw8 hbd hlk HLK HM7 HF7 HD7 HBX7 HK7 HB7 c2 r0 r1 y0 y1 hW7; have c4 := HBX8.out.cell 4; simp at c4; obtain ⟨r0, r1, _, _⟩ := HD8.out.two; go_wp2_with fail
          go_still_tail 5, (by kernel_rfl)
          change wpList _ _ _ _ _ w8.drew; clear c4 r0 r1; refine ng rfl _ _ _ 63 rfl Tryz.underlying63 be Nj _ rfl HM8.out.ed (by unfold maxLen; omega) (d1, d2) (dF HDW.out) rfl rfl ?_; intro w9 hS9 hg9; have hg9' : w8.grownBy w9 (some be) := ⟨hg9.os, hg9.tape, hg9.output, hg9.size, hg9.block⟩
          have HM9 := ah (HM8.out.setEd HD.out hS9 hg9'); have HF9 : Hid (WkF base ⟨b, pA, pn, pc, pre, bc, bn, be, bm⟩ w6 w9) := HF8.out.trans (WkF.grown hg9' (fun i e => by cases e; exact ⟨hkbe, .inr (.inr (.inl rfl))⟩)); simp only at HM9; rw [HE.out] at HM9; clear hS9 hg9 hg9' HM8 HF8 HD8 HBX8; go_wp2_with fail; go_roundw
          case rel => exact ⟨j + 1, Nj + 1, hlt2, by go_num, HM9.out, HF9.out, by omega⟩
          case measure => simp [intOf]; omega
      . have hlz : ¬ (j : Int) < (pn2 : Int) := by omega
        have HTA : Hid (pars.take j = pars) := List.take_of_length_le (by rw [HPL.out]; omega); rw [HTA.out] at HMj; have HR9 : Hid (GmR wr Tryz.prog 42 dO bG bc w.heap.size Nc (sv com) (fun z => left z && !decide (z = (d1, d2))) cnt2) := (HR6.out.wkf HM6.out HD.out HFj.out (by show w.heap.size ≠ b; omega) (by show w.heap.size ≠ bn; omega) (by show w.heap.size ≠ be; omega) (by show w.heap.size ≠ bm; omega))
        have HMS2 := ah HR9.out.left_; have HFw := ah (HF6.out.trans HFj.out); go_wp2_with fail; go_roundw
        case rel => exact ⟨_, cnt2, Nj, _, HMj.out, HFw.out, HR9.out, HC2.out, by omega, by show s3.op.length + cnt2 <= _; omega, by omega⟩
        case measure => rw [HMS.out, HMS2.out]; exact hlt
end
def HcE (p : List Itm) (d : Dig) (w : World) (e : Ending) (w' : World) : Prop :=
 ((∃ o s, ay p d = some o /\ OkO o /\ o.kind = 3 /\ e = .returned (.tuple #[obV o s, .int .i64 0]) /\ ObM w' w'.heap.size o s) ∨ ((∀ o, ay p d = some o -> o.kind ≠ 3) /\ ∃ err : Int, err ≠ 0 /\ e = .returned (.tuple #[obV zOb zOs, .int .i64 err]))) /\ Below w.heap.size w w'
theorem Aa (A : OA) (n c B : Nat) (p : List Itm) (d : Dig) (w : World) (h0 : Sl w B 3 A n (flat itC p)) (hB : B <= w.heap.size) (hn : n <= 1000000) (hp : PlOk p) :
  Calls Tryz.prog 118 #[.slice A n c, az d] w (HcE p d w) := by
 obtain ⟨d1, d2⟩ := d; obtain ⟨W, hW⟩ : ∃ W, (w.alloc (.cells #[.int .u64 d1, .int .u64 d2] 42)).alloc (.cells #[.int .i64 0, .string ⟨#[]⟩, .slice none 0 0, .int .u64 0, .int .u64 0, .slice none 0 0, .string ⟨#[]⟩, .int .i64 0, .string ⟨#[]⟩] 75) = W := ⟨_, rfl⟩
 have HB0 : Hid (Below w.heap.size w W) := by rw [<- hW]; exact ((Below.refl _ w).alloc ai _).alloc (by simp) _
 have HK : Hid (Bk W w.heap.size 42 #[.int .u64 d1, .int .u64 d2]) := by rw [<- hW]; exact (Bk.new w _ _).alloc _
 have HZ : Hid (Bk W (w.heap.size + 1) 75 zrC) := by
  rw [<- hW]; have := Bk.new (w.alloc (.cells #[.int .u64 d1, .int .u64 d2] 42)) 75 #[.int .i64 0, .string ⟨#[]⟩, .slice none 0 0, .int .u64 0, .int .u64 0, .slice none 0 0, .string ⟨#[]⟩, .int .i64 0, .string ⟨#[]⟩]; rw [World.size_alloc] at this; exact this
 have HC := ah (vD A n c B p (d1, d2) W (h0.below HB0.out hB) (Nat.le_trans hB HB0.out.size) hn hp); clear h0 hp; have zW : w.heap.size + 2 = W.heap.size := by rw [<- hW]; simp
 have HW := ah hW; clear hW; unfold GeE at HC; simp only [az] at HC ⊢; obtain ⟨x0, x1, _, _⟩ := HK.out.two
 go_enter Tryz.func118, Tryz.ntmps118
 go_wp2_with fail; rw [HW.out]; refine HC.out.mono ?_; rintro e w2 ⟨hq, hb⟩; have HZ2 := ah (HZ.out.below hb (by omega)); have HB2 : Hid (Below w.heap.size w w2) := HB0.out.trans (hb.mono HB0.out.size); have z2 := hb.size; clear hb HC x0 x1; rcases hq with ⟨o, s, hg, ho, rfl, hm, _⟩ | ⟨hg, rfl⟩
 case inr =>
  have HN : Hid (∀ o, ay p (d1, d2) = some o -> o.kind ≠ 3) := fun o h => by rw [hg] at h; cases h
  simp only [obV, obC, zOb, zOs]; clear hg; obtain ⟨z0, z1, z2', z3, z4, z5, z6, z7, z8⟩ := HZ2.out.nine; obtain ⟨g0, g1, g2, g3, g4, g5, g6, g7, g8⟩ := fr9 HZ2.out; have hne1 : w.heap.size + 1 ≠ w2.heap.size := by omega
  have hne2 : w2.heap.size ≠ w.heap.size + 1 := by omega
  have hlt1 : w.heap.size + 1 < w2.heap.size := by omega
  go_wp2_with fail; refine bodyPost_ret (aX Tryz.results118 rfl ((aQ HZ2.out _ _ _ _ _ _ _ _ _).alloc _) rfl) rfl ⟨.inr ⟨HN.out, 8, by decide, rfl⟩, (aP HB2.out (by omega) _ _ _ _ _ _ _ _ _).alloc (aP HB2.out (by omega) _ _ _ _ _ _ _ _ _).size _⟩
 case inl =>
  have HM2 := ah hm; have HO := ah ho; have HG := ah hg; simp only [obV, obC]; obtain ⟨z0, z1, z2', z3, z4, z5, z6, z7, z8⟩ := HZ2.out.nine; obtain ⟨g0, g1, g2, g3, g4, g5, g6, g7, g8⟩ := fr9 HZ2.out; have hne1 : w.heap.size + 1 ≠ w2.heap.size := by omega
  have hne2 : w2.heap.size ≠ w.heap.size + 1 := by omega
  have hlt1 : w.heap.size + 1 < w2.heap.size := by omega
  clear hm ho hg; by_cases hk : o.kind = 3
  case neg =>
   have HKN := ah hk; have t1 : (o.kind != 3) = true := by rw [bne_iff_ne]; exact hk
   clear hk; go_wp2_with fail; refine bodyPost_ret (aX Tryz.results118 rfl ((aQ HZ2.out _ _ _ _ _ _ _ _ _).alloc _) rfl) rfl ⟨.inr ⟨fun o' h' => by rw [HG.out] at h'; cases h'; exact HKN.out, 9, by decide, rfl⟩, (aP HB2.out (by omega) _ _ _ _ _ _ _ _ _).alloc (aP HB2.out (by omega) _ _ _ _ _ _ _ _ _).size _⟩
  case pos =>
   have HKP := ah hk; have t1 : (o.kind != 3) = false := by rw [bne_eq_false_iff_eq]; exact hk
   clear hk; go_wp2_with fail; refine bodyPost_ret (aX Tryz.results118 rfl ((aQ HZ2.out _ _ _ _ _ _ _ _ _).alloc _) rfl) rfl ⟨.inl ⟨o, s, HG.out, HO.out, HKP.out, rfl, ?_⟩, (aP HB2.out (by omega) _ _ _ _ _ _ _ _ _).alloc (aP HB2.out (by omega) _ _ _ _ _ _ _ _ _).size _⟩; have h9 := HM2.out.zero (t := 75) HO.out HZ2.out (fun k hk => iT _ w2 (.int .i64 o.kind) (.string o.data) (.slice s.eA s.en s.ec) (.int .u64 o.tree.1) (.int .u64 o.tree.2) (.slice s.pA s.pn s.pc) (.string o.auth) (.int .i64 o.time) (.string o.msg) k hk); refine (h9.below (B' := w2.heap.size) ((Below.refl _ _).alloc (by simp) _) ai).more (by simp)
theorem fI (l : List Dig) : ∀ u ∈ flat dgC l, u.oneCell' = true := fun u hu => by
 unfold flat at hu; obtain ⟨i, _, h⟩ := List.mem_flatMap.1 hu; simp [dgC] at h; rcases h with rfl | rfl <;> rfl
theorem Sl.dg_take {w : World} {B n k : Nat} {A : OA} {l : List Dig} (h : Sl w B 2 A n (flat dgC l)) (hk : k <= n) : Sl w B 2 A k (flat dgC (l.take k)) := h.take_ aS (by omega) hk
def dgB (x : Dig) : Array Value := #[.int .u64 x.1, .int .u64 x.2]
def SlG (x : Dig) (v : Value) (W : World) : Prop := ∃ b0, v = .slice (some ⟨b0, 0, none⟩) 1 1 /\ Bk W b0 42 (dgB x)
theorem SlG.keep {x : Dig} {v : Value} {W W' : World} (h : SlG x v W) (hb : Below W.heap.size W W') : SlG x v W' := by
 obtain ⟨b0, h1, h2⟩ := h; exact ⟨b0, h1, h2.below hb h2.lt⟩
theorem xn {W : World} {b0 : Nat} {x : Dig} (h : Bk W b0 42 (dgB x)) : Sl W W.heap.size 2 (some ⟨b0, 0, none⟩) 1 (flat dgC [x]) := Sl.of_bk (n := 1) h rfl
def ApG (base m : Nat) (q : List Dig) (v : Value) (W : World) : Prop := ∃ A c, v = .slice A m c /\ Apd W base 42 2 A m c (flat dgC q)
theorem ApG.keep {base m : Nat} {q : List Dig} {v : Value} {W W' : World} (h : ApG base m q v W) (hb : Below W.heap.size W W') : ApG base m q v W' := by
 obtain ⟨A, c, h1, h2⟩ := h; exact ⟨A, c, h1, h2.below hb⟩
theorem jK (A : OA) (n c B : Nat) (l : List Dig) (d : Dig) (w : World) (h0 : Sl w B 2 A n (flat dgC l)) (hB : B <= w.heap.size) (hn : n <= 500000000) :
  Calls Tryz.prog 17 #[.slice A n c, az d] w fun e w' => e = .returned (.bool (decide (d ∈ l))) /\ Below w.heap.size w w' := by
 have HL := ah (h0.len aS (by omega)); have H0 := ah h0; clear h0; obtain ⟨a, b⟩ := d; unfold az; obtain ⟨W, hW⟩ : ∃ W, w.alloc (.cells #[.int .u64 a, .int .u64 b] 42) = W := ⟨_, rfl⟩
 have HB0 : Hid (Below w.heap.size w W) := by rw [<- hW]; exact (Below.refl _ w).alloc ai _
 have HK : Hid (Bk W w.heap.size 42 #[.int .u64 a, .int .u64 b]) := by rw [<- hW]; exact Bk.new w _ _
 have zk : w.heap.size < W.heap.size := HK.out.lt; simp only
 go_enter Tryz.func17, Tryz.ntmps17
 go_wp2_with fail; clear hW
 go_loopw [5] (fun i wr => ∃ k : Nat, k <= n /\ i = .int .i64 k /\ Hid ((a, b) ∉ l.take k) /\ Hid (Below W.heap.size W wr)) (fun i _ => n - (intOf i).toNat)
 case atStart => exact ⟨0, Nat.zero_le _, rfl, (fun h => by simp at h), Below.refl _ _⟩
 case round =>
  obtain ⟨k, hk, rfl, hN, hBel⟩ := hrel; have HBw : Hid (Below w.heap.size w wr) := HB0.out.trans (hBel.out.mono HB0.out.size); by_cases hlt : k < n
  . obtain ⟨bb, off, x, rfl, hbB, hx, y0, y1⟩ := (H0.out.below HBw.out hB).dg hlt
    have hlz : (k : Int) < (n : Int) := by omega
    obtain ⟨x0, x1, _, _⟩ := (HK.out.below hBel.out zk).two; have HX := ah hx; clear hx; have hde := iW x (a, b); simp only at hde; by_cases e : x = (a, b)
    . rw [decide_eq_true e] at hde
      have HM : Hid ((a, b) ∈ l) := by show _ ∈ _; rw [<- e]; exact List.mem_of_getElem? HX.out
      clear e; obtain ⟨x1', x2'⟩ := x; simp only at y0 y1 hde; go_wp2_with fail
      go_quiet (fail)
      go_wp2_with fail; go_ret
      exact ⟨aZ (by rw [decide_eq_true HM.out]), aM HBw.out _⟩
    . rw [decide_eq_false e] at hde
      have HN : Hid ((a, b) ∉ l.take (k + 1)) := fun hm => by
       rw [bA HX.out] at hm; rcases List.mem_append.1 hm with hm | hm
       . exact hN.out hm
       . exact e (List.mem_singleton.1 hm).symm
      clear e; obtain ⟨x1', x2'⟩ := x; simp only at y0 y1 hde; go_wp2_with fail
      go_quiet (fail)
      go_wp2_with fail; go_roundw
      case rel => exact ⟨k + 1, by omega, by go_num, HN.out, aM hBel.out _⟩
      case measure => simp [intOf]; omega
  . have hlz : ¬ (k : Int) < (n : Int) := by omega
    have HN : Hid ((a, b) ∉ l) := by
     have := hN.out
     rwa [List.take_of_length_le (by rw [HL.out]; omega)] at this
    go_wp2_with fail; go_ret
    exact ⟨aZ (by rw [decide_eq_false HN.out]), HBw.out⟩
/-! ### With -/
theorem u7 {l : List Dig} {d : Dig} {k : Nat} (h : AscD l) (h1 : ∀ y ∈ l.take k, ltD y d) (h2 : ∀ x, l[k]? = some x -> ltD d x) : AscD (l.take k ++ [d] ++ l.drop k) := by
 have h3 : ∀ y ∈ l.drop k, ltD d y := by
  intro y hy; cases hd : l.drop k with
  | nil => rw [hd] at hy; cases hy
  | cons x r =>
    have hx : l[k]? = some x := by have h := congrArg (fun z => z[0]?) hd; simpa using h
    have h4 : (l.drop k).Pairwise ltD := h.sublist (List.drop_sublist _ _); rw [hd] at hy h4; rcases List.mem_cons.1 hy with rfl | hy
    . exact h2 _ hx
    . exact fo (h2 _ hx) ((List.pairwise_cons.1 h4).1 y hy)
 unfold AscD; rw [List.append_assoc, List.pairwise_append]; refine ⟨h.sublist (List.take_sublist _ _), List.pairwise_cons.2 ⟨h3, h.sublist (List.drop_sublist _ _)⟩, fun a ha b hb => ?_⟩; rcases List.mem_cons.1 hb with rfl | hb
 . exact h1 a ha
 . exact fo (h1 a ha) (h3 b hb)
theorem uX (l : List Dig) (d : Dig) (k : Nat) (x : Dig) : x ∈ l.take k ++ [d] ++ l.drop k ↔ x = d ∨ x ∈ l := by
 rw [List.mem_append, List.mem_append, List.mem_singleton]
 conv => rhs; rw [<- List.take_append_drop k l, List.mem_append]
 constructor
 . rintro ((h | h) | h)
   . exact .inr (.inl h)
   . exact .inl h
   . exact .inr (.inr h)
 . rintro (h | h | h)
   . exact .inl (.inr h)
   . exact .inl (.inl h)
   . exact .inr h
section
variable {F : Fence} {n : Nat} {P : Program}
theorem rT {α : Type} {g : Operand} {ps : Array Tmp} {assign body : Code} {Q : Exit -> Act -> World -> Prop} {a : Act} {w : World}
  (hro : F.round = none) (h1 : 1 <= n) {gf : Nat} {lb : Array Value} (hg : a.eval g = .func (.func gf) #[] lb) (hFg : F.fn gf) (eg : ∀ args w, (callFunc gf args).run P w = .ok (.enter gf args) w)
  {encs : α -> Array Value} {Kp St : World -> World -> Prop} {Pf S Sp : List α -> Prop} {w0 : World} (hseq : qL F (n - 1) P gf lb encs Kp St Pf S Sp (w.heap.size + 2) w0)
  (hKt : ∀ {A B C : World}, Kp A B -> Kp B C -> Kp A C) (hKb : ∀ (W : World) (l : Nat) (r : Loop) (o' : Obj), w.heap.size + 1 = l -> W.heap[l]? = some (.loop r) -> Kp W (W.putObj l o')) (hSo : ∀ A B, St A B -> w.heap.size + 2 <= A.heap.size -> Rec2 w.heap.size A B) (hb0 : Below w0.heap.size w0 w) (hps : ∀ x, (encs x).size = ps.size)
  (I : List α -> World -> Prop) (Ix : Code -> List α -> World -> Prop) (hI : OwnFrom w.heap.size I) (hIx : ∀ c, OwnFrom w.heap.size (Ix c)) (hIS : ∀ pre A B, I pre A -> St A B -> I pre B) (h0 : I [] w) (As : α -> Nat -> World -> Prop) (hAp : ∀ x b W l (r : Loop) (o : Obj), W.heap[l]? = some (.loop r) -> As x b W -> As x b (W.putObj l o)) (a₁ : α -> Nat -> Act)
  (hassign : ∀ (l : Nat) (pre : List α) (x : α) (W : World) (K : Act -> World -> Prop), w.heap.size + 2 <= W.heap.size -> I pre W -> (∀ b W', Rec2 w.heap.size W W' -> Kp W W' -> I pre W' -> As x b W' -> K (a₁ x b) W') ->
    assign.wpIn (F.inRound l) (n - 1 - 1) P (Exit.then K (fun _ _ _ => False)) { tmps := (ps.zip (encs x)).foldl (fun t (p, v) => t.setIfInBounds p v) a.tmps, defers := [] } W)
  (hbody : ∀ (l : Nat) (pre : List α) (x : α) (b : Nat) (W : World), Pf (pre ++ [x]) -> w.heap.size + 2 <= W.heap.size -> I pre W -> As x b W -> body.wpIn (F.inRound l) (n - 1 - 1) P (DD w.heap.size Kp I Ix (pre ++ [x]) W) (a₁ x b) W)
  (hdone : ∀ (D : Nat) (xs : List α) (W : World), w.heap.size <= D -> S xs -> I xs W -> W.heap[D]? = some (.deferred (some [])) -> Q .normal { a with defers := { target := .collected D, args := #[] } :: a.defers } W)
  (hstop : ∀ (D : Nat) (c : Code) (pre : List α) (W : World), w.heap.size <= D -> Sp pre -> Ix c pre W -> W.heap[D]? = some (.deferred (some [])) -> c.wpIn F n P Q { a with defers := { target := .collected D, args := #[] } :: a.defers } W) :
  (Code.rangeFunc g ps assign body).wpIn F n P Q a w := by
 refine wpIn_rangeFunc ?_; intro fn hfn; rw [hro]
 -- the loop's record in block L, the block of its deferred calls in block D
 obtain ⟨D, hD⟩ : ∃ D, w.heap.size = D := ⟨_, rfl⟩
 obtain ⟨rec, hrec⟩ : ∃ rec : LoopState -> Option Code -> Loop, rec = fun st pe => { state := st, pending := pe, fn, tmps := a.tmps, params := ps, assign, body, defers := D } := ⟨_, rfl⟩
 obtain ⟨W1, hW1⟩ : ∃ W1, (w.alloc (.deferred (some []))).alloc (.loop (rec .ready none)) = W1 := ⟨_, rfl⟩
 have hL1 : W1.heap[D + 1]? = some (.loop (rec .ready none)) := by
  rw [<- hW1, <- hD]; have := World.alloc_heap_new (w.alloc (.deferred (some []))) (.loop (rec .ready none)); rwa [World.size_alloc] at this
 have hK1 : W1.heap[D]? = some (.deferred (some [])) := by
  rw [<- hW1, <- hD]; exact (Below.heap_alloc _ _ _ (by simp)).trans (World.alloc_heap_new w _)
 have hI1 : I [] W1 := by rw [<- hW1]; exact hI.alloc _ (hI.alloc _ h0)
 have hb1 : Below w0.heap.size w0 W1 := by
  rw [<- hW1]; exact hb0.trans ((((Below.refl _ w).alloc ai _).alloc (by simp) _).mono hb0.size)
 refine ⟨D + 1, [{ target := .collected D, args := #[] }], W1, { target := .fn (.func gf) lb, args := #[.func (.yield (D + 1)) #[] #[]] }, W1, gf,
  #[.func (.yield (D + 1)) #[] #[]] ++ lb, W1, ?_, ?_, ?_, ?_, fun _ => h1, ?_⟩
 . rw [<- hW1, hrec, <- hD]; exact run_enterLoop_outer _ _ _ _ _
 . simp only [resolve, hg]
   simp [go_sem]
 . intro f' hf'; simp [Target.leads] at hf'; subst hf'; exact hFg
 . simp [invoke, go_sem, eg]
 . refine (hseq (D + 1)
     (fun pre W => I pre W /\ W.heap[D + 1]? = some (.loop (rec .ready none)) /\ W.heap[D]? = some (.deferred (some [])))
     (fun pre W => ∃ c, Ix c pre W /\ W.heap[D + 1]? = some (.loop (rec .done (some c))) /\ W.heap[D]? = some (.deferred (some [])))
     W1 hb1 (by rw [<- hW1]; simp)
     (fun pre A B hs hst => by
       have hz2 := (Array.getElem?_eq_some_iff.1 hs.2.1).1; have hr := hSo A B hst (by omega); rw [hD] at hr; exact ⟨hIS pre A B hs.1 hst, hr.2.trans hs.2.1, hr.1.trans hs.2.2⟩)
     ?_ ⟨hI1, hL1, hK1⟩).mono ?_
   . rintro pre x W hpf ⟨hi, hl, hk⟩
     have hlt : D + 1 < W.heap.size := (Array.getElem?_eq_some_iff.1 hl).1; have hy := run_yield (P := P) (args := encs x) hl (by rw [hrec]; exact hps x); rw [hrec] at hy; refine ⟨fn, _, assign, body, hy, roundIn_of_wpIn hfn (hassign _ pre x W _ (by omega) hi fun b V hrv hkv hiv hav => ?_)⟩; rw [hD] at hrv; have hlv : V.heap[D + 1]? = some (.loop (rec .ready none)) := hrv.2.trans hl; have hkd : V.heap[D]? = some (.deferred (some [])) := hrv.1.trans hk; have hltv : D + 1 < V.heap.size := (Array.getElem?_eq_some_iff.1 hlv).1; refine ⟨_, run_beginRound hlv (by rw [hrec]), ?_⟩; obtain ⟨W2, hW2⟩ : ∃ W2, V.putObj (D + 1) (.loop { rec .ready none with state := .busy }) = W2 := ⟨_, rfl⟩
     have hl2 : W2.heap[D + 1]? = some (.loop { rec .ready none with state := .busy }) := by rw [<- hW2]; exact World.putObj_heap_same hltv
     have hk2 : W2.heap[D]? = some (.deferred (some [])) := by rw [<- hW2]; exact (World.putObj_heap_other (by omega)).trans hkd
     have hw2 : Kp W W2 := by rw [<- hW2]; exact hKt hkv (hKb _ _ _ _ (by omega) hlv)
     have hi2 : I pre W2 := by rw [<- hW2]; exact hI.putObj _ hiv (by omega) hlv rfl
     have ha2 : As x b W2 := by rw [<- hW2]; exact hAp _ _ _ _ _ _ hlv hav
     rw [hW2]; refine wpIn_mono (hbody _ pre x b _ hpf (by have := (Array.getElem?_eq_some_iff.1 hl2).1; omega) hi2 ha2) ?_; have fin : ∀ (jump : Option Code) (W3 : World), Rec2 w.heap.size W2 W3 ->
       (Instr.endRound (D + 1) jump).run P W3 = .ok (.bool jump.isNone) (W3.putObj (D + 1) (.loop (rec (if jump.isNone then .ready else .done) jump))) ∧
       W3.heap[D + 1]? = some (.loop { rec .ready none with state := .busy }) ∧
       (W3.putObj (D + 1) (.loop (rec (if jump.isNone then .ready else .done) jump))).heap[D + 1]? = some (.loop (rec (if jump.isNone then .ready else .done) jump)) ∧
       (W3.putObj (D + 1) (.loop (rec (if jump.isNone then .ready else .done) jump))).heap[D]? = some (.deferred (some [])) := fun jump W3 hk3 => by
      rw [hD] at hk3; have hl3 := hk3.2.trans hl2; have := run_endRound (P := P) jump hl3; rw [hrec] at this ⊢; exact ⟨this, by rw [hrec] at hl3; exact hl3, World.putObj_heap_same (Array.getElem?_eq_some_iff.1 hl3).1, (World.putObj_heap_other (by omega)).trans (hk3.1.trans hk2)⟩
     rintro e a3 W3 hp; cases e with
     | normal =>
       obtain ⟨hk3, hkp3, hi3⟩ := hp; obtain ⟨hr, hl3, hl4, hk4⟩ := fin none W3 hk3; exact ⟨_, _, hr, .inl ⟨rfl, ⟨hI.putObj _ hi3 (by omega) hl3 rfl, hl4, hk4⟩, hKt (hKt hw2 hkp3) (hKb _ _ _ _ (by omega) hl3)⟩⟩
     | ret =>
       obtain ⟨hk3, hi3⟩ := hp; obtain ⟨hr, hl3, hl4, hk4⟩ := fin (some .ret) W3 hk3; exact ⟨_, _, hr, .inr ⟨rfl, .ret, (hIx _).putObj _ hi3 (by omega) hl3 rfl, hl4, hk4⟩⟩
     | exit id =>
       obtain ⟨hk3, hi3⟩ := hp; obtain ⟨hr, hl3, hl4, hk4⟩ := fin (some (.exit id)) W3 hk3; exact ⟨_, _, hr, .inr ⟨rfl, .exit id, (hIx _).putObj _ hi3 (by omega) hl3 rfl, hl4, hk4⟩⟩
     | goto t =>
       obtain ⟨hk3, hi3⟩ := hp; obtain ⟨hr, hl3, hl4, hk4⟩ := fin (some (.goto t)) W3 hk3; exact ⟨_, _, hr, .inr ⟨rfl, .goto t, (hIx _).putObj _ hi3 (by omega) hl3 rfl, hl4, hk4⟩⟩
     | panic ch => exact hp.elim
     | outgrown => exact hp.elim
   . rintro e W2 ⟨⟨v, rfl⟩, (⟨xs, hS, hi, hl, hk⟩ | ⟨pre, hSp, c, hi, hl, hk⟩)⟩
     . exact ⟨none, _, by have := run_endLoop (P := P) hl (by rw [hrec]; simp); rw [hrec] at this; exact this, hdone _ xs _ (by omega) hS (hI.putObj _ hi (by omega) hl rfl) ((World.putObj_heap_other (by omega)).trans hk)⟩
     . exact ⟨some c, _, by have := run_endLoop (P := P) hl (by rw [hrec]; simp); rw [hrec] at this; exact this, hstop _ c pre _ (by omega) hSp ((hIx c).putObj _ hi (by omega) hl rfl) ((World.putObj_heap_other (by omega)).trans hk)⟩
end
section
open Go.Maps
attribute [local go_sem] Oper.semAt_some
def LvK (hi bm B : Nat) (W : World) (A : OA) (n : Nat) (l : List Dig) : Prop :=
 (hi <= B /\ Sl W hi 2 A n (flat dgC l)) ∨ ∃ g off cur, A = some ⟨g, off, none⟩ /\ bm < g /\ g < B /\ W.heap[g]? = some (.cells cur 42 (0, 0)) /\ Sl W (g + 1) 2 A n (flat dgC l)
section
variable {hi bm B B' : Nat} {W W' : World} {A : OA} {n : Nat} {l : List Dig}
theorem LvK.sl (h : LvK hi bm B W A n l) : Sl W B 2 A n (flat dgC l) := by
 rcases h with ⟨h1, h2⟩ | ⟨g, off, cur, h1, h2, h3, h4, h5⟩
 . exact h2.more h1
 . exact h5.more h3
theorem LvK.keep (h : LvK hi bm B W A n l) (hk : ∀ k, k < B -> (k < hi ∨ isRow 42 W.heap[k]?) -> W'.heap[k]? = W.heap[k]?) : LvK hi bm B W' A n l := by
 rcases h with ⟨h1, h2⟩ | ⟨g, off, cur, h1, h2, h3, h4, h5⟩
 . exact .inl ⟨h1, h2.keep fun p hp => World.cell?_of_block (hk p.block (by omega) (.inl hp))⟩
 . have hg := hk g h3 (.inr (by rw [h4]; exact rfl))
   refine .inr ⟨g, off, cur, h1, h2, h3, hg.trans h4, h5.1, fun h0 => ?_⟩; obtain ⟨b', off', e, hb', hc⟩ := h5.2 h0; rw [h1] at e; cases e
   exact ⟨g, off, h1, hb', fun j u hu => (World.cell?_of_block hg).trans (hc j u hu)⟩
theorem LvK.more (h : LvK hi bm B W A n l) (hB : B <= B') : LvK hi bm B' W A n l := by
 rcases h with ⟨h1, h2⟩ | ⟨g, off, cur, h1, h2, h3, h4⟩
 . exact .inl ⟨by omega, h2⟩
 . exact .inr ⟨g, off, cur, h1, h2, by omega, h4⟩
theorem LvK.of_own {base c : Nat} (h : W.ownsRow base 42 2 (.slice A n c) n (flat dgC l)) (hb : bm < base) (hhi : hi <= W.heap.size) : LvK hi bm W.heap.size W A n l := by
 rcases Nat.eq_zero_or_pos n with h0 | h0
 . subst h0
   have : flat dgC l = [] := List.eq_nil_of_length_eq_zero (by rw [h.1]); rw [show l = [] from by cases l with | nil => rfl | cons a l => simp [flat, dgC] at this]; exact .inl ⟨hhi, Sl.nil _ _ _ _⟩
 . rcases h.2 with ⟨_, h1⟩ | ⟨g, cap, cur, hv, h2, h3, _⟩
   . omega
   . injection hv with hA
     have hs := Sl.of_own h; refine .inr ⟨g, 0, cur, hA, by omega, (Array.getElem?_eq_some_iff.1 h3).1, h3, hs.1, fun h0 => ?_⟩; obtain ⟨b', off, e, _, hc⟩ := hs.2 h0; rw [hA] at e; cases e
     exact ⟨g, 0, hA, Nat.lt_succ_self _, hc⟩
end
structure NxD (W : World) (hi bh bp be : Nat) (p : List Itm) (pA : OA) (pn pc : Nat) (hs : List Dig) (hA : OA) (hn hc : Nat) (eo : Option Nat) (Ne : Nat) (ed : Dig -> Bool) : Prop where
 fh : W.heap[bh]? = some (.cells #[.slice hA hn hc] 24 (0, 0))
 fp : W.heap[bp]? = some (.cells #[.slice pA pn pc] 23 (0, 0))
 fe : W.heap[be]? = some (.cells #[.map eo] 63 (0, 0))
 hs : Sl W hi 2 hA hn (flat dgC hs)
 ps : Sl W hi 3 pA pn (flat itC p)
 es : (eo = none /\ ∀ d, ed d = false) ∨ ∃ b, eo = some b /\ b < hi /\ Sd W b Ne ed
section
variable {W W' : World} {hi bh bp be bm : Nat} {p : List Itm} {pA : OA} {pn pc : Nat} {hs : List Dig} {hA : OA} {hn hc : Nat} {eo : Option Nat} {Ne : Nat} {ed : Dig -> Bool}
theorem NxD.keep (h : NxD W hi bh bp be p pA pn pc hs hA hn hc eo Ne ed) (hk : ∀ j, (j < hi ∨ j = bh ∨ j = bp ∨ j = be) -> W'.heap[j]? = W.heap[j]?) : NxD W' hi bh bp be p pA pn pc hs hA hn hc eo Ne ed :=
 ⟨(hk bh (by simp)).trans h.fh, (hk bp (by simp)).trans h.fp, (hk be (by simp)).trans h.fe, h.hs.keep fun a ha => World.cell?_of_block (hk a.block (.inl ha)), h.ps.keep fun a ha => World.cell?_of_block (hk a.block (.inl ha)), by
   rcases h.es with h1 | ⟨b, h1, h2, h3⟩
   . exact .inl h1
   . exact .inr ⟨b, h1, h2, h3.block (hk b (.inl h2))⟩⟩
theorem NxD.step (h : NxD W hi bh bp be p pA pn pc hs hA hn hc eo Ne ed) (hs' : StepR bm 42 W W') (h1 : hi <= bm) (h2 : bh < bm) (h3 : bp < bm) (h4 : be < bm) (hz : bm <= W.heap.size) : NxD W' hi bh bp be p pA pn pc hs hA hn hc eo Ne ed :=
 h.keep fun j hj => by
  have : j < bm := by omega
  exact hs'.block j (by omega) (.inl this)
theorem NxD.round (h : NxD W hi bh bp be p pA pn pc hs hA hn hc eo Ne ed) (hs' : KeepR bm 42 (fun j => j < hi ∨ j = bh ∨ j = bp ∨ j = be) W W') (h1 : hi <= bm) (h2 : bh < bm) (h3 : bp < bm) (h4 : be < bm) (hz : bm <= W.heap.size) : NxD W' hi bh bp be p pA pn pc hs hA hn hc eo Ne ed :=
 h.keep fun j hj => hs'.block j (by omega) (.inr (.inr hj))
theorem NxD.look (h : NxD W hi bh bp be p pA pn pc hs hA hn hc eo Ne ed) {d : Dig} (hd : bG d) : (Instr.lookup 63 (.map eo) (.agg #[.int .u64 d.1, .int .u64 d.2]) false).run Tryz.prog W = .ok (.bool (ed d)) W := by
 rcases h.es with ⟨rfl, h1⟩ | ⟨b, rfl, h2, h3⟩
 . rw [h1 d]; exact FI Tryz.underlying63 hd
 . exact Sd.look h3 Tryz.underlying63 hd
end
theorem StepR.of_below {bm : Nat} {e : TypeId} {A B : World} (h : Below A.heap.size A B) : StepR bm e A B := ⟨h.os, h.tape, h.output, h.size, fun k hk _ => h.block k hk⟩
theorem StepR.trans {bm : Nat} {e : TypeId} {A B C : World} (h : StepR bm e A B) (g : StepR bm e B C) : StepR bm e A C :=
 ⟨g.os.trans h.os, g.tape.trans h.tape, g.output.trans h.output, Nat.le_trans h.size g.size, fun k hk hc => by
   have h1 := h.block k hk hc; rw [<- h1] at hc ⊢; exact g.block k (Nat.lt_of_lt_of_le hk h.size) hc⟩
theorem D9 (n : Nat) (hn : 1 <= n) (hi bh bp be hz : Nat) (p : List Itm) (pA : OA) (pn pc : Nat) (hs : List Dig) (hA : OA) (hnn hc : Nat) (eo : Option Nat) (Ne : Nat) (ed : Dig -> Bool) (stop : Dig -> Prop) (w : World)
  (h0 : NxD w hi bh bp be p pA pn pc hs hA hnn hc eo Ne ed) (hhi : hi <= w.heap.size) (hbh : bh < w.heap.size) (hbp : bp < w.heap.size) (hbe : be < w.heap.size) (hwz : w.heap.size <= hz) (hpo : PlOk p) (hpn : pn <= 1000000) (hh : ∀ d ∈ hs, WfD d) (hst : ∀ d, ed d = true ↔ stop d) (hU : (eY p hs).length <= 10000) (hhn : hnn <= 10000) :
  qL Fence.wide n Tryz.prog 117 #[.pointer (some ⟨bh, 0, none⟩), .pointer (some ⟨bp, 0, none⟩), .pointer (some ⟨be, 0, none⟩)] (fun x : Dig × Nat => #[az x.1, .int .i64 x.2])
   (KeepR hz 42 (fun j => j < hi ∨ j = bh ∨ j = bp ∨ j = be)) (StepR hz 42) (DiE p hs stop) (DiS p hs stop) (DiE p hs stop) hz w := fun l J Jx W hW hWz hJ hY hJ0 => by
 subst hWz; have HN : Hid (NxD W hi bh bp be p pA pn pc hs hA hnn hc eo Ne ed) := h0.keep fun j hj => hW.block j (by omega); have HN1 := ah (HN.out.step (StepR.alloc (bm := W.heap.size) (e := 42) W (.map #[] 0)) (by omega) (by omega) (by omega) (by omega) ai); have s0 := cell_of_one HN1.out.fh; have HJ := ah hJ; have HY := ah hY; have HJ0 := ah hJ0; have HPO := ah hpo; have HH := ah hh; have HST := ah hst; have HU := ah hU; have HLN := ah (HN.out.hs.len aS (by omega)); clear hW h0 hJ hY hJ0 hpo hh hst hU; have hmm := @run_makeMap Tryz.prog; obtain ⟨i0, hi0, hz0, hz1, hz2⟩ := info_parts ik; have Hi := ah hi0; have Hz0 := ah hz0; have Hz1 := ah hz1; have Hz2 := ah hz2; clear hi0 hz0 hz1 hz2; refine callsIn_of_wp Tryz.func117 rfl trivial ?_ rfl; simp only [Tryz.ntmps117, List.size_toArray, List.length_cons, List.length_nil, Nat.reduceAdd, Nat.reduceSub, Array.replicate_succ, Array.replicate_zero, List.push_toArray, List.append_toArray, List.nil_append, List.cons_append]
 gi_wp2
 obtain ⟨W0, hW0⟩ : ∃ V, W.alloc (.map #[] 0) = V := ⟨_, rfl⟩
 have HM0 : Hid (Sd W0 W.heap.size 0 (bJ [])) := by
  have e : bJ [] = fun _ => false := by funext d; simp [bJ]
  show Sd _ _ _ _; rw [<- hW0, e]; exact Sd.made W
 have HJ1 : Hid (J [] W0) := by rw [<- hW0]; exact HJ.out [] _ _ HJ0.out (StepR.alloc W (.map #[] 0))
 have hzW0 : W.heap.size < W0.heap.size := HM0.out.lt; rw [hW0] at HN1; have HL0 : Hid (LvK hi W.heap.size W0.heap.size W0 hA hnn hs) := .inl ⟨by omega, HN1.out.hs⟩; rw [hW0]; clear hW0 s0 HJ0
 gi_loopg [6, 7] (2 * (eY p hs).length + min hnn 1) (fun m lv nn wr => ∃ (pre : List (Dig × Nat)) (level : List Dig) (A : OA) (nl c nv : Nat), m = 2 * ((eY p hs).length - pre.length) + min nl 1 /\ lv = .slice A nl c /\ nn = .int .i64 (nv : Int) /\ nl <= 100000 /\ nv <= pre.length + 1 /\ (0 < nl -> nv <= pre.length) ∧
  Hid (LvK hi W.heap.size wr.heap.size wr A nl level) /\ Hid (Sd wr W.heap.size pre.length (bJ pre)) /\ Hid (NxD wr hi bh bp be p pA pn pc hs hA hnn hc eo Ne ed) /\ Hid (DiI p hs stop nv level pre) /\ Hid (J pre wr) /\ W.heap.size < wr.heap.size)
 case atStart => exact ⟨[], hs, hA, hnn, hc, 0, by simp, rfl, rfl, by omega, by simp, by simp, HL0.out, HM0.out, HN1.out, DiI.start p hs stop, HJ1.out, hzW0⟩
 case round =>
  obtain ⟨pre, level, A, nl, c, nv, rfl, rfl, rfl, hnl, hnv, hnv2, hL, hM, hN, hI, hJr, hwz⟩ := hrel; have HL := ah hL.out; have HM := ah hM.out; have HNr := ah hN.out; have HI := ah hI.out; have HJr := ah hJr.out; have HLL := ah (hL.out.sl.len aS (by omega)); have HLE := iY HPO.out HI.out.lv HI.out.nod; clear hL hM hN hI hJr HL0 HM0 HN1 HJ1; by_cases hl0 : 0 < nl
  case neg =>
   have hlz : ¬ (0 : Int) < (nl : Int) := by omega
   have HF : Hid (DiS p hs stop pre) := by
    have h1 := HI.out; rw [List.eq_nil_of_length_eq_zero (by rw [HLL.out]; omega : level.length = 0)] at h1; exact h1.fin
   gi_wp2
   go_end0
   exact ⟨⟨_, rfl⟩, .inl ⟨pre, HF.out, HJr.out⟩⟩
  case pos =>
   have hlz : (0 : Int) < (nl : Int) := by omega
   have HNV : Hid (nv <= pre.length) := hnv2 hl0; clear hnv2; obtain ⟨wo, hwo⟩ : ∃ wo, wo = wr := ⟨_, rfl⟩
   subst hwo
   gi_wp2
   gi_loopg [8, 22] nl (fun m nx i wi => ∃ (pre2 : List (Dig × Nat)) (next : List Dig) (A2 : OA) (n2 c2 j : Nat), m = nl - j /\ j <= nl /\ i = .int .i64 (j : Int) /\ nx = .slice A2 n2 c2 /\ pre.length <= pre2.length /\ next.length = n2 /\ n2 + 8 * pre.length <= 8 * pre2.length ∧
    Hid (wi.ownsRow wo.heap.size 42 2 (.slice A2 n2 c2) n2 (flat dgC next)) /\ Hid (LvK hi W.heap.size wo.heap.size wi A nl level) /\ Hid (Sd wi W.heap.size pre2.length (bJ pre2)) /\ Hid (NxD wi hi bh bp be p pA pn pc hs hA hnn hc eo Ne ed) /\ Hid (DiJ p hs stop nv level j pre2 next) /\ Hid (J pre2 wi) /\ wo.heap.size <= wi.heap.size)
   case atStart => exact ⟨pre, [], none, 0, 0, 0, rfl, Nat.zero_le _, rfl, rfl, Nat.le_refl _, rfl, by omega, World.ownsRow_nil _ _ _ _, HL.out, HM.out, HNr.out, HI.out.into, HJr.out, Nat.le_refl _⟩
   case round =>
    obtain ⟨pre2, next, A2, n2, c2, j, rfl, hj, rfl, rfl, hpp, hn2, hnb, hO, hL, hM, hN, hI2, hJ2, hwi⟩ := hrel; have HO := ah hO.out; have HL2 := ah hL.out; have HM2 := ah hM.out; have HN2 := ah hN.out; have HI2 := ah hI2.out; have HJ2 := ah hJ2.out; have HN2L := ah hn2; have HLE2 := iY HPO.out HI2.out.lv HI2.out.nod; have hU1 := HU.out; clear hO hL hM hN hI2 hJ2 hn2; by_cases hlt : j < nl
    . obtain ⟨bb, off, x, rfl, hbB, hx, y0, y1⟩ := HL2.out.sl.dg hlt
      have hjz : (j : Int) < (nl : Int) := by omega
      have HX := ah hx; have HXW : Hid (WfD x) := qF HPO.out HH.out (HI2.out.lj.lv x (List.mem_of_getElem? hx)); clear hx; obtain ⟨x1, x2⟩ := x; simp only at y0 y1; obtain ⟨W1, hW1⟩ : ∃ V, wr.alloc (.cells #[.int .u64 x1, .int .u64 x2] 42) = V := ⟨_, rfl⟩
      have HK1 : Hid (Bk W1 wr.heap.size 42 #[.int .u64 x1, .int .u64 x2]) := by rw [<- hW1]; exact Bk.new wr _ _
      have HB1 : Hid (Below wr.heap.size wr W1) := by rw [<- hW1]; exact (Below.refl _ wr).alloc ai _
      have HS1 : Hid (StepR W.heap.size 42 wr W1) := StepR.of_below HB1.out; have HM3 := ah (HM2.out.below HB1.out HM2.out.lt); have HN3 := ah (HN2.out.step HS1.out (by omega) (by omega) (by omega) (by omega) (by omega)); have HL3 : Hid (LvK hi W.heap.size wo.heap.size W1 (some ⟨bb, off, none⟩) nl level) := HL2.out.keep fun k hk _ => HB1.out.block k (by omega); have HO3 := ah (fE HO.out HB1.out); have HJ3 := ah (HJ.out _ _ _ HJ2.out HS1.out); have hz1 : wr.heap.size < W1.heap.size := HK1.out.lt; obtain ⟨q0, q1, _, _⟩ := HK1.out.two; have hlk := Sd.look (d := (x1, x2)) HM3.out Tryz.underlying63 (dF HXW.out); simp only at hlk; clear HM2 HN2 HL2 HO HJ2 HS1; cases hmet : bJ pre2 (x1, x2) with
      | true =>
        rw [hmet] at hlk; have HI3 := ah (HI2.out.skip HX.out hmet); clear hmet
        gi_wp2
        gi_roundg (nl - (j + 1))
        case rel => exact ⟨pre2, next, A2, n2, c2, j + 1, rfl, hlt, by go_num, rfl, hpp, HN2L.out, hnb, HO3.out, HL3.out, HM3.out, HN3.out, HI3.out, HJ3.out, by omega⟩
        case measure => omega
      | false =>
        rw [hmet] at hlk; have HPF := ah (HI2.out.yields HX.out hmet); have HI3 := ah (HI2.out.take HX.out hmet (HST.out (x1, x2))); have HLE3 := iY HPO.out HPF.out.lv HPF.out.nod; rw [List.length_append] at HLE3; simp only [List.length_cons, List.length_nil] at HLE3; clear hmet
        gi_wp2_with (gi_at_mapUpdate; refine aI ?_)
        refine aC ?_; refine mZ rfl _ _ _ 63 rfl Tryz.underlying63 W.heap.size pre2.length (bJ pre2) rfl HM3.out (by unfold maxLen; omega) (x1, x2) (dF HXW.out) rfl rfl ?_; intro w2 hM4 hg4; rw [<- nD pre2 (x1, x2) nv] at hM4; have HM4 := ah hM4; have HS4 : Hid (StepR W.heap.size 42 W1 w2) := StepR.of_grown hg4 (fun g e => by cases e; exact .inl rfl); have HN4 := ah (HN3.out.step HS4.out (by omega) (by omega) (by omega) (by omega) (by omega)); have HL4 : Hid (LvK hi W.heap.size wo.heap.size w2 (some ⟨bb, off, none⟩) nl level) := HL3.out.keep fun k hk hc => hg4.block k (by omega) (fun e => by
         cases e
         rcases hc with hc | hc
         . omega
         . exact ig HM3.out hc)
        have HO4 : Hid (w2.ownsRow wo.heap.size 42 2 (.slice A2 n2 c2) n2 (flat dgC next)) := HO3.out.kept hg4 (by
         rcases HO3.out.2 with ⟨hv, _⟩ | ⟨g, cap, cur, hv, hb, _⟩
         . rw [hv]; exact .inl rfl
         . rw [hv]; refine .inr fun e => ?_
           have : g = W.heap.size := by simpa [Value.ownBlock] using e
           omega)
        have HK4 := ah (HK1.out.grown hg4 (fun e => by have := Option.some.inj e; omega)); have HJ4 := ah (HJ.out _ _ _ HJ3.out HS4.out); have hz4 : W1.heap.size <= w2.heap.size := hg4.size; obtain ⟨q0, q1, _, _⟩ := HK4.out.two; clear hM4 hg4 HM3 HN3 HL3 HO3 HJ3 HS4 HK1 hlk hW1; obtain ⟨fn, tmps, assign, body, hy, hR⟩ := HY.out pre2 ((x1, x2), nv) w2 HPF.out HJ4.out; simp only [az] at hy; have HR := ah hR; clear hR
        gi_wp2
        refine HR.out.mono ?_; rintro e W5 (⟨rfl, hJ5, hK5⟩ | ⟨rfl, hJx5⟩)
        . have HJ5 := ah hJ5
          have HM5 := ah (HM4.out.block (hK5.block W.heap.size (by omega) (.inl rfl))); have HN5 := ah (HN4.out.round hK5 (by omega) (by omega) (by omega) (by omega) (by omega)); have HL5 : Hid (LvK hi W.heap.size wo.heap.size W5 (some ⟨bb, off, none⟩) nl level) := HL4.out.keep fun k hk hc => hK5.block k (by omega) (by
           rcases hc with hc | hc
           . exact .inr (.inr (.inl hc))
           . exact .inr (.inl hc))
          have HO5 : Hid (W5.ownsRow wo.heap.size 42 2 (.slice A2 n2 c2) n2 (flat dgC next)) := by
           refine ⟨HO4.out.1, ?_⟩; rcases HO4.out.2 with h1 | ⟨g, cap, cur, h1, h2, h3, h4⟩
           . exact .inl h1
           . exact .inr ⟨g, cap, cur, h1, h2, (hK5.block g (Array.getElem?_eq_some_iff.1 h3).1 (.inr (.inl (by rw [h3]; exact rfl)))).trans h3, h4⟩
          have HK5 : Hid (Bk W5 wr.heap.size 42 #[.int .u64 x1, .int .u64 x2]) := (hK5.block _ HK4.out.lt (.inr (.inl (by rw [show w2.heap[wr.heap.size]? = _ from HK4.out]; exact rfl)))).trans HK4.out; have hz5 : w2.heap.size <= W5.heap.size := hK5.size; have HC := ah (callsIn_wide.2 (Aa pA pn pc hi p (x1, x2) W5 HN5.out.ps (by omega) hpn HPO.out) : CallsIn Fence.wide (n - 1) Tryz.prog _ _ _ _); obtain ⟨q0, q1, _, _⟩ := HK5.out.two; have s1 := cell_of_one HN5.out.fp; clear hJ5 hK5 HR HM4 HN4 HL4 HO4 HK4 HJ4 hy; unfold HcE at HC; simp only [az] at HC
          gi_wp2
          refine ⟨trivial, HC.out.mono ?_⟩; rintro e w6 ⟨hq, hb6⟩; have HS6 : Hid (StepR W.heap.size 42 W5 w6) := StepR.of_below hb6; have HM6 := ah (HM5.out.below hb6 HM5.out.lt); have HN6 := ah (HN5.out.step HS6.out (by omega) (by omega) (by omega) (by omega) (by omega)); have HL6 : Hid (LvK hi W.heap.size wo.heap.size w6 (some ⟨bb, off, none⟩) nl level) := HL5.out.keep fun k hk _ => hb6.block k (by omega); have HO6 := ah (fE HO5.out hb6); have HK6 := ah (HK5.out.below hb6 HK5.out.lt); have HJ6 := ah (HJ.out _ _ _ HJ5.out HS6.out); have hz6 : W5.heap.size <= w6.heap.size := hb6.size; clear hb6 HC HM5 HN5 HL5 HO5 HK5 HJ5 HS6 q0 q1 s1; rcases hq with ⟨o, s, hg, hok, hk3, rfl, hm⟩ | ⟨hg, err, he, rfl⟩
          case inr =>
           rw [BS (ed (x1, x2)) hg] at HI3; have het : (err == 0) = false := by rw [beq_eq_false_iff_ne]; exact he
           clear hg he; simp only [obV, obC, zOb, zOs]; have HX7 : Hid (∀ o : Obj, (w6.alloc o).ownsRow wo.heap.size 42 2 (.slice A2 n2 c2) n2 (flat dgC next) /\ LvK hi W.heap.size wo.heap.size (w6.alloc o) (some ⟨bb, off, none⟩) nl level /\ Sd (w6.alloc o) W.heap.size (pre2.length + 1) (bJ (pre2 ++ [((x1, x2), nv)])) /\ NxD (w6.alloc o) hi bh bp be p pA pn pc hs hA hnn hc eo Ne ed /\ J (pre2 ++ [((x1, x2), nv)]) (w6.alloc o) /\ wo.heap.size <= (w6.alloc o).heap.size) := fun o => by
            have hb7 : Below w6.heap.size w6 (w6.alloc o) := (Below.refl _ w6).alloc ai _; have hs7 : StepR W.heap.size 42 w6 (w6.alloc o) := StepR.of_below hb7; exact ⟨fE HO6.out hb7, HL6.out.keep fun k hk _ => hb7.block k (by omega), HM6.out.below hb7 HM6.out.lt, HN6.out.step hs7 (by omega) (by omega) (by omega) (by omega) (by omega), HJ.out _ _ _ HJ6.out hs7, by simp; omega⟩
           gi_wp2
           gi_roundg (nl - (j + 1))
           case rel => exact ⟨pre2 ++ [((x1, x2), nv)], next, A2, n2, c2, j + 1, rfl, hlt, by go_num, rfl, by rw [List.length_append]; omega, HN2L.out, by rw [List.length_append]; omega, (HX7.out _).1, (HX7.out _).2.1, by rw [List.length_append]; exact (HX7.out _).2.2.1, (HX7.out _).2.2.2.1, HI3.out, (HX7.out _).2.2.2.2.1, (HX7.out _).2.2.2.2.2⟩
           case measure => omega
          case inl =>
           have HPQ := ah (gQ hok); have HPL := ah hm.plen; have HG := ah hg; have HK3 := ah hk3; obtain ⟨kd, dat, ents, ⟨t1, t2⟩, pars, auth, time, msg⟩ := o; obtain ⟨eA2, en2, ec2, pA2, pn2, pc2⟩ := s; simp only at HPQ HPL HK3; simp only [obV, obC]; obtain ⟨W7, hW7⟩ : ∃ V, w6.alloc (.cells #[.int .i64 kd, .string dat, .slice eA2 en2 ec2, .int .u64 t1, .int .u64 t2, .slice pA2 pn2 pc2, .string auth, .int .i64 time, .string msg] 75) = V := ⟨_, rfl⟩
           have HT7 : Hid (Bk W7 w6.heap.size 75 #[.int .i64 kd, .string dat, .slice eA2 en2 ec2, .int .u64 t1, .int .u64 t2, .slice pA2 pn2 pc2, .string auth, .int .i64 time, .string msg]) := by rw [<- hW7]; exact Bk.new w6 _ _
           have HB7 : Hid (Below w6.heap.size w6 W7) := by rw [<- hW7]; exact (Below.refl _ w6).alloc ai _
           have HS7 : Hid (StepR W.heap.size 42 w6 W7) := StepR.of_below HB7.out; have HM7 := ah (HM6.out.below HB7.out HM6.out.lt); have HN7 := ah (HN6.out.step HS7.out (by omega) (by omega) (by omega) (by omega) (by omega)); have HL7 : Hid (LvK hi W.heap.size wo.heap.size W7 (some ⟨bb, off, none⟩) nl level) := HL6.out.keep fun k hk _ => HB7.out.block k (by omega); have HO7 := ah (fE HO6.out HB7.out); have HK7 := ah (HK6.out.below HB7.out HK6.out.lt); have HJ7 := ah (HJ.out _ _ _ HJ6.out HS7.out); have HP7 : Hid (Sl W7 W7.heap.size 2 pA2 pn2 (flat dgC pars)) := (hm.p.below HB7.out ai).more HB7.out.size; have hz7 : w6.heap.size < W7.heap.size := HT7.out.lt; have HPN : Hid (pn2 <= 8) := by show _ <= _; rw [<- HPL.out]; exact HPQ.out.1
           obtain ⟨g0, g1, g2, g3, g4, g5, g6, g7, g8⟩ := HT7.out.nine; obtain ⟨q0, q1, _, _⟩ := HK7.out.two; have s2 := cell_of_one HN7.out.fe; have hlk := HN7.out.look (dF HXW.out); simp only at hlk; clear hm hg hok hk3 HM6 HN6 HL6 HO6 HK6 HJ6 HB7 HS7; cases hed : ed (x1, x2) with
           | true =>
             rw [hed] at hlk HI3; rw [BJ HG.out] at HI3; clear hed
             gi_wp2
             gi_roundg (nl - (j + 1))
             case rel => exact ⟨pre2 ++ [((x1, x2), nv)], next, A2, n2, c2, j + 1, rfl, hlt, by go_num, rfl, by rw [List.length_append]; omega, HN2L.out, by rw [List.length_append]; omega, HO7.out, HL7.out, by rw [List.length_append]; exact HM7.out, HN7.out, HI3.out, HJ7.out, by omega⟩
             case measure => omega
           | false =>
             rw [hed] at hlk HI3; rw [Ej HG.out HK3.out] at HI3; clear hed; have hpn8 := HPN.out
             gi_wp2_with (gi_at_builtin; refine aI ?_)
             refine aC ?_; refine mY (base := wo.heap.size) (size := 2) rfl (.tmp 50) (.tmp 52) 24 rfl 42 i0 _ 16 Tryz.underlying24 Hi.out Hz0.out Hz1.out Hz2.out rfl (by decide) (.slice A2 n2 c2) n2 (flat dgC next) rfl HO7.out W7.heap.size pA2 pn2 pc2 (flat dgC pars) rfl HP7.out (fI _) (by unfold maxLen; omega) (by omega) (by omega) ?_; intro A9 c9 w9 hO9 hg9 hc9 hm9; rw [<- bT] at hO9; have HO9 := ah hO9; have HROW : Hid (∀ g, (Value.slice A2 n2 c2).ownBlock = some g -> wo.heap.size <= g /\ ∃ cur, W7.heap[g]? = some (.cells cur 42 (0, 0))) := fun g hgg => by
              rcases HO7.out.2 with ⟨hv, _⟩ | ⟨g', cap, cur, hv, hb, hh, _⟩
              . rw [hv] at hgg; cases hgg
              . rw [hv] at hgg
                have hgb : g' = g := by simpa [Value.ownBlock] using hgg
                subst hgb; exact ⟨hb, cur, hh⟩
             have HS9 : Hid (StepR W.heap.size 42 W7 w9) := StepR.of_grown hg9 (fun g e => by
              obtain ⟨h1, cur, h2⟩ := HROW.out g e; exact .inr ⟨by omega, by rw [h2]; exact rfl⟩)
             have HM9 := ah (HM7.out.kept hg9 (fun e => by have := (HROW.out _ e.symm).1; omega)); have HN9 := ah (HN7.out.step HS9.out (by omega) (by omega) (by omega) (by omega) (by omega)); have HL9 : Hid (LvK hi W.heap.size wo.heap.size w9 (some ⟨bb, off, none⟩) nl level) := HL7.out.keep fun k hk _ => hg9.block k (by omega) (fun e => by have := (HROW.out k e.symm).1; omega); have HJ9 := ah (HJ.out _ _ _ HJ7.out HS9.out); have hz9 : W7.heap.size <= w9.heap.size := hg9.size; clear hO9 hg9 hlk g0 g1 g2 g3 g4 g5 g6 g7 g8 q0 q1 s2 hW7
             gi_wp2
             gi_roundg (nl - (j + 1))
             case rel => exact ⟨pre2 ++ [((x1, x2), nv)], next ++ pars, A9, n2 + pn2, c9, j + 1, rfl, hlt, by go_num, rfl, by rw [List.length_append]; omega, by rw [List.length_append, HN2L.out, HPL.out], by rw [List.length_append]; simp only [List.length_cons, List.length_nil]; omega, HO9.out, HL9.out, by rw [List.length_append]; exact HM9.out, HN9.out, HI3.out, HJ9.out, by omega⟩
             case measure => omega
        . gi_wp2
          exact bodyPost_ret (results_none rfl _ _ _) rfl ⟨⟨_, rfl⟩, .inr ⟨_, HPF.out, hJx5⟩⟩
    . have hjz : ¬ (j : Int) < (nl : Int) := by omega
      have hjn : j = nl := by omega
      have HI9 : Hid (DiI p hs stop (nv + 1) next pre2) := by
       have h1 := HI2.out; rw [hjn, <- HLL.out] at h1; exact h1.nextLv
      have HL9 : Hid (LvK hi W.heap.size wr.heap.size wr A2 n2 next) := LvK.of_own HO.out (by omega) (by omega); have hnv3 := HNV.out; clear hjn
      gi_wp2
      gi_roundg (2 * ((eY p hs).length - pre2.length) + min n2 1)
      case rel => exact ⟨pre2, next, A2, n2, c2, nv + 1, rfl, rfl, by go_num, by omega, by omega, by omega, HL9.out, HM2.out, HN2.out, HI9.out, HJ2.out, by omega⟩
      case measure => omega
end
section
open Go.Maps
attribute [local go_sem] Oper.semAt_some
theorem za (pA : OA) (pn pc : Nat) (hA : OA) (hn hc : Nat) (eo : Option Nat) (w : World) :
  Calls Tryz.prog 73 #[.slice pA pn pc, .slice hA hn hc, .map eo] w fun e w' => e = .returned (.func (.func 117) #[] #[.pointer (some ⟨w.heap.size + 1, 0, none⟩), .pointer (some ⟨w.heap.size, 0, none⟩), .pointer (some ⟨w.heap.size + 1 + 1, 0, none⟩)]) ∧
   w' = ((w.alloc (.cells #[.slice pA pn pc] 23)).alloc (.cells #[.slice hA hn hc] 24)).alloc (.cells #[.map eo] 63) := by
 go_enter Tryz.func73, Tryz.ntmps73
 go_wp2
 go_ret
 exact ⟨rfl, rfl⟩
def yD (p : List Itm) (hs : List Dig) (stop : Dig -> Prop) (dep : Int) (w : World) (e : Ending) (w' : World) : Prop :=
 ∃ bc Nc com, e = .returned (.map (some bc)) /\ Sd w' bc Nc com /\ w.heap.size <= bc /\ (∀ d, com d = true ↔ NC p hs stop dep d) /\ Nc <= 10000 /\ Below w.heap.size w w'
structure CmI (w0 : Nat) (dep : Int) (q : List (Dig × Nat)) (w W : World) : Prop where
 d : W.heap[w0]? = some (.cells #[.int .i64 dep] 3 (0, 0))
 n : W.heap[w0 + 2]? = some (.cells #[.map (some (w0 + 1))] 63 (0, 0))
 s : Sd W (w0 + 1) q.length (bJ q)
 lt : ∀ y ∈ q, dep = 0 ∨ (y.2 : Int) < dep
 b : Below w0 w W
 z : w0 + 6 <= W.heap.size
theorem CmI.keep {w0 : Nat} {dep : Int} {q : List (Dig × Nat)} {w W W' : World} (h : CmI w0 dep q w W) (hb : Below w0 w W') (hk : ∀ j, j < w0 + 3 -> W'.heap[j]? = W.heap[j]?) (hz : W.heap.size <= W'.heap.size) : CmI w0 dep q w W' :=
 ⟨(hk _ (by omega)).trans h.d, (hk _ (by omega)).trans h.n, h.s.block (hk _ (by omega)), h.lt, hb, by have := h.z; omega⟩
theorem zQ (p : List Itm) (pA : OA) (pn pc : Nat) (hs : List Dig) (hA : OA) (hn hc : Nat) (dep : Int) (eo : Option Nat) (Ne : Nat) (ed : Dig -> Bool) (stop : Dig -> Prop) (B : Nat) (w : World)
  (h0 : Sl w B 3 pA pn (flat itC p)) (h1 : Sl w B 2 hA hn (flat dgC hs)) (hB : B <= w.heap.size) (hes : (eo = none /\ ∀ d, ed d = false) ∨ ∃ b, eo = some b /\ b < B /\ Sd w b Ne ed) (hpo : PlOk p) (hpn : pn <= 1000000) (hh : ∀ d ∈ hs, WfD d) (hst : ∀ d, ed d = true ↔ stop d) (hU : (eY p hs).length <= 10000) (hhn : hn <= 10000) :
  Calls Tryz.prog 48 #[.slice pA pn pc, .slice hA hn hc, .int .i64 dep, .map eo] w (yD p hs stop dep w) := by
 refine (callsIn_wide (n := 6)).1 ?_; have hmm := @run_makeMap Tryz.prog; have HPO := ah hpo; have HH := ah hh; have HST := ah hst; have HU := ah hU; clear hpo hh hst hU; obtain ⟨W1, hW1⟩ : ∃ W1, ((w.alloc (.cells #[.int .i64 dep] 3)).alloc (.map #[] 0)).alloc (.cells #[.map (some (w.heap.size + 1))] 63) = W1 := ⟨_, rfl⟩
 have z1 : W1.heap.size = w.heap.size + 3 := by rw [<- hW1]; simp
 have hb1 : Below w.heap.size w W1 := by rw [<- hW1]; exact (((Below.refl _ w).alloc ai _).alloc (by simp) _).alloc (by simp; omega) _
 have k0 : Bk W1 w.heap.size 3 #[.int .i64 dep] := by rw [<- hW1]; exact ((Bk.new w _ _).alloc _).alloc _
 have k1 : Sd W1 (w.heap.size + 1) 0 (bJ []) := by
  have e : bJ [] = fun _ => false := by funext d; simp [bJ]
  rw [<- hW1, e]; have := Sd.made (w.alloc (.cells #[.int .i64 dep] 3)); rw [World.size_alloc] at this; exact Gm.alloc this _
 have k2 : Bk W1 (w.heap.size + 2) 63 #[.map (some (w.heap.size + 1))] := by
  rw [<- hW1]; have := Bk.new ((w.alloc (.cells #[.int .i64 dep] 3)).alloc (.map #[] 0)) 63 #[.map (some (w.heap.size + 1))]; rw [World.size_alloc, World.size_alloc] at this; exact this
 have HDS := ah (za pA pn pc hA hn hc eo W1); have HW1 := ah hW1; have H0 := ah ((h0.below hb1 hB).more hB); have H1 := ah ((h1.below hb1 hB).more hB); have HES : Hid ((eo = none /\ ∀ d, ed d = false) ∨ ∃ b, eo = some b /\ b < w.heap.size /\ Sd W1 b Ne ed) := by
  rcases hes with h | ⟨b, h1, h2, h3⟩
  . exact .inl h
  . exact .inr ⟨b, h1, by omega, h3.below hb1 (by omega)⟩
 have HB1 := ah hb1; have K0 := ah k0; have K1 := ah k1; have K2 := ah k2; clear hW1 h0 h1 hes hb1 k0 k1 k2; refine callsIn_of_wp_marks Tryz.func48 rfl trivial ?_ rfl; simp only [Tryz.ntmps48, List.size_toArray, List.length_cons, List.length_nil, Nat.reduceAdd, Nat.reduceSub, Array.replicate_succ, Array.replicate_zero, List.push_toArray, List.append_toArray, List.nil_append, List.cons_append]
 gi_wp2_with fail
 rw [HW1.out]; refine ⟨trivial, (callsIn_wide.2 HDS.out).mono ?_⟩; rintro e W2 ⟨rfl, hw2⟩; have z2 : W2.heap.size = w.heap.size + 6 := by rw [hw2]; simp; omega
 have hb2 : Below W1.heap.size W1 W2 := by rw [hw2]; exact (((Below.refl _ W1).alloc ai _).alloc (by simp) _).alloc (by simp; omega) _
 have kp : Bk W2 (w.heap.size + 3) 23 #[.slice pA pn pc] := by rw [hw2, <- z1]; exact ((Bk.new W1 _ _).alloc _).alloc _
 have kh : Bk W2 (w.heap.size + 3 + 1) 24 #[.slice hA hn hc] := by
  rw [hw2]; have := Bk.new (W1.alloc (.cells #[.slice pA pn pc] 23)) 24 #[.slice hA hn hc]; rw [World.size_alloc, z1] at this; exact this.alloc _
 have ke : Bk W2 (w.heap.size + 3 + 1 + 1) 63 #[.map eo] := by
  rw [hw2]; have := Bk.new ((W1.alloc (.cells #[.slice pA pn pc] 23)).alloc (.cells #[.slice hA hn hc] 24)) 63 #[.map eo]; rw [World.size_alloc, World.size_alloc, z1] at this; exact this
 have hI0 : CmI w.heap.size dep [] w W2 := ⟨K0.out.below hb2 (by omega), K2.out.below hb2 (by omega), K1.out.below hb2 (by omega), (fun y h => by cases h), HB1.out.trans (hb2.mono (by omega)), by omega⟩
 have hnx : NxD W2 w.heap.size (w.heap.size + 3 + 1) (w.heap.size + 3) (w.heap.size + 3 + 1 + 1) p pA pn pc hs hA hn hc eo Ne ed := ⟨kh, kp, ke, H1.out.below hb2 (by omega), H0.out.below hb2 (by omega), by
  rcases HES.out with h | ⟨b, h1, h2, h3⟩
  . exact .inl h
  . exact .inr ⟨b, h1, h2, h3.below hb2 (by omega)⟩⟩
 rw [z1]; clear HDS HW1 K0 K1 K2 H0 H1 HES HB1 hw2 hb2 kp kh ke
 gi_wp2
 refine rT (α := Dig × Nat) (F := Fence.wide) (n := 6) rfl (by omega) (gf := 117) (lb := #[.pointer (some ⟨w.heap.size + 3 + 1, 0, none⟩), .pointer (some ⟨w.heap.size + 3, 0, none⟩), .pointer (some ⟨w.heap.size + 3 + 1 + 1, 0, none⟩)]) rfl trivial (enters_of Tryz.func117 (by kernel_rfl) rfl)
  (D9 5 (by omega) w.heap.size (w.heap.size + 3 + 1) (w.heap.size + 3) (w.heap.size + 3 + 1 + 1) (W2.heap.size + 2) p pA pn pc hs hA hn hc eo Ne ed stop W2 hnx (by omega) (by omega) (by omega) (by omega) (by omega) HPO.out hpn HH.out HST.out HU.out hhn) KeepR.trans (fun W l r o' hl hlr => uF W l r o' hlr (by omega) (by omega)) (fun A C h hA => uw h rfl hA) (Below.refl _ _) (fun _ => rfl)
  (fun pre W => CmI w.heap.size dep pre w W)
  (fun c pre W => c = .exit 0 /\ ∃ q x, pre = q ++ [x] /\ CmI w.heap.size dep q w W /\ dep ≠ 0 /\ dep <= (x.2 : Int))
  ?hI ?hIx ?hIS hI0
  (fun x b W => W2.heap.size + 2 <= b /\ Bk W b 42 #[.int .u64 x.1.1, .int .u64 x.1.2])
  ?hAp (fun x b => { tmps := #[.slice pA pn pc, .slice hA hn hc, .int .i64 dep, .map eo, undef, undef, .pointer (some ⟨w.heap.size, 0, none⟩), undef, .map none, .pointer (some ⟨w.heap.size + 1 + 1, 0, none⟩), .pointer (some ⟨b, 0, none⟩), .int .i64 x.2, .map (some (w.heap.size + 1)), .slice pA pn pc, .slice hA hn hc, .map eo, .func (.func 117) #[] #[.pointer (some ⟨w.heap.size + 3 + 1, 0, none⟩), .pointer (some ⟨w.heap.size + 3, 0, none⟩), .pointer (some ⟨w.heap.size + 3 + 1 + 1, 0, none⟩)], az x.1, .int .i64 x.2, undef, undef, undef, undef, undef, undef, undef, undef, undef, undef], defers := [] }) ?assign ?body ?done ?stop
 case hAp =>
  rintro x b W l r o hl ⟨hb, hw⟩; refine ⟨hb, (World.putObj_heap_other (fun e => ?_)).trans hw⟩; subst e; have : W.heap[b]? = _ := hw; rw [hl] at this; cases this
 case hI =>
  rintro pre A C row h hg hr; refine h.keep (h.b.grown hg (by have := h.z; omega) (fun k e => ?_)) (fun j hj => hg.block j (by have := h.z; omega) (fun e => ?_)) hg.size
  . have := (hr _ e).1; omega
  . have := (hr _ e.symm).1; omega
 case hIx =>
  rintro c pre A C row ⟨h0, q, x, h1, h, h2⟩ hg hr; refine ⟨h0, q, x, h1, h.keep (h.b.grown hg (by have := h.z; omega) (fun k e => ?_)) (fun j hj => hg.block j (by have := h.z; omega) (fun e => ?_)) hg.size, h2⟩
  . have := (hr _ e).1; omega
  . have := (hr _ e.symm).1; omega
 case hIS =>
  rintro pre A C h hs; exact h.keep (hs.below h.b (by omega) (by have := h.z; omega)) (fun j hj => hs.block j (by have := h.z; omega) (.inl (by omega))) hs.size
 case assign =>
  intro l pre x W K hWz hI hK; have HKK := ah hK; have HI := ah hI; clear hK hI hI0 hnx; obtain ⟨⟨x1, x2⟩, x3⟩ := x; simp only [az]
  gi_wp2
  have hb : Below W.heap.size W (W.alloc (.cells #[.int .u64 x1, .int .u64 x2] 42)) := (Below.refl _ W).alloc ai _; have hz := HI.out.z; exact HKK.out W.heap.size _ ⟨hb.block _ (by omega), hb.block _ (by omega)⟩ ⟨hb.size, fun k hk _ => hb.block k hk⟩ (HI.out.keep (HI.out.b.trans (hb.mono (by omega))) (fun j hj => hb.block j (by omega)) hb.size) ⟨hWz, Bk.new W _ _⟩
 case body =>
  rintro l pre x b W ht hWz h ⟨hbz, hk⟩; obtain ⟨⟨x1, x2⟩, x3⟩ := x; simp only at hk; have HWD := ah (dF (qF HPO.out HH.out (ht.lv ((x1, x2), x3) (List.mem_append_right _ (List.mem_singleton.2 rfl))))); have HLN : Hid (pre.length <= 10000) := by
   show _ <= _; have := iY HPO.out ht.lv ht.nod; rw [List.length_append] at this; have h2 := HU.out; omega
  have c0 := cell_of_one h.d; have c2 := cell_of_one h.n; obtain ⟨y0, y1, _, _⟩ := hk.two; have HI := ah h; have HT := ah ht; clear h hk hI0 hnx ht; have hways : (dep = 0 /\ (dep != 0) = false) ∨ (dep ≠ 0 /\ (dep != 0) = true /\ dep <= (x3 : Int)) ∨ (dep ≠ 0 /\ (dep != 0) = true /\ ¬ dep <= (x3 : Int)) := by
   by_cases h : dep = 0
   . exact .inl ⟨h, by rw [h]; rfl⟩
   . by_cases h2 : dep <= (x3 : Int)
     . exact .inr (.inl ⟨h, by rw [bne_iff_ne]; exact h, h2⟩)
     . exact .inr (.inr ⟨h, by rw [bne_iff_ne]; exact h, h2⟩)
  have hln := HLN.out; have hput : ∀ w3, Sd w3 (w.heap.size + 1) (pre.length + 1) (aK (bJ pre) (x1, x2)) -> W.grownBy w3 (some (w.heap.size + 1)) -> (dep = 0 ∨ (x3 : Int) < dep) -> Rec2 W2.heap.size W w3 /\ KeepR (W2.heap.size + 2) 42 (fun j => j < w.heap.size ∨ j = w.heap.size + 3 + 1 ∨ j = w.heap.size + 3 ∨ j = w.heap.size + 3 + 1 + 1) W w3 /\ CmI w.heap.size dep (pre ++ [((x1, x2), x3)]) w w3 := fun w3 hS hg hd => by
   have hz := HI.out.z; refine ⟨⟨hg.block _ (by omega) (fun e => by have := Option.some.inj e; omega), hg.block _ (by omega) (fun e => by have := Option.some.inj e; omega)⟩, ⟨hg.size, fun k hk hc => hg.block k hk (fun e => ?_)⟩, ?_⟩
   . have e := Option.some.inj e
     subst e; rcases hc with hc | hc | hc
     . omega
     . exact ig HI.out.s hc
     . omega
   . refine ⟨(hg.block _ (by omega) (fun e => by have := Option.some.inj e; omega)).trans HI.out.d, (hg.block _ (by omega) (fun e => by have := Option.some.inj e; omega)).trans HI.out.n, ?_, fun y hy => ?_, HI.out.b.grown hg (by omega) (fun g e => by cases e; omega), by have := hg.size; omega⟩
     . rw [List.length_append, nD]; exact hS
     . rcases List.mem_append.1 hy with hy | hy
       . exact HI.out.lt y hy
       . rw [List.mem_singleton.1 hy]; exact hd
  have HPUT := ah hput; clear hput; rcases hways with ⟨h1, h2⟩ | ⟨h1, h2, h3⟩ | ⟨h1, h2, h3⟩
  . have HD : Hid (dep = 0 ∨ (x3 : Int) < dep) := .inl h1
    clear h1
    gi_wp2_with (gi_at_mapUpdate; refine aI ?_)
    refine aC ?_; refine mZ rfl _ _ _ 63 rfl Tryz.underlying63 (w.heap.size + 1) pre.length (bJ pre) rfl HI.out.s (by unfold maxLen; omega) (x1, x2) HWD.out rfl rfl ?_; intro w3 hS hg; have HP := ah (HPUT.out w3 hS hg HD.out); clear hS hg
    gi_wp2
    exact HP.out
  . have HDN := ah h1; have HDX := ah h3
    clear h1
    gi_wp2
    exact ⟨Rec2.refl _ _, rfl, pre, x1, x2, x3, rfl, HI.out, HDN.out, HDX.out⟩
  . have HD : Hid (dep = 0 ∨ (x3 : Int) < dep) := .inr (by omega)
    clear h1
    gi_wp2_with (gi_at_mapUpdate; refine aI ?_)
    refine aC ?_; refine mZ rfl _ _ _ 63 rfl Tryz.underlying63 (w.heap.size + 1) pre.length (bJ pre) rfl HI.out.s (by unfold maxLen; omega) (x1, x2) HWD.out rfl rfl ?_; intro w3 hS hg; have HP := ah (HPUT.out w3 hS hg HD.out); clear hS hg
    gi_wp2
    exact HP.out
 case done =>
  rintro D xs W hD hS h hK; have c2 := cell_of_one h.n; have HI := ah h; have HS := ah hS; have HK := ah hK; clear h hS hK hI0 hnx
  gi_wp2
  refine ⟨by simp, .inl ⟨_, _, rfl, run_takeDeferred HK.out, ?_⟩⟩; have hln : xs.length <= 10000 := Nat.le_trans (iY HPO.out HS.out.1 HS.out.2.2) HU.out; refine ⟨_, results_tmp rfl _ _ _, w.heap.size + 1, xs.length, bJ xs, rfl, HI.out.s.kept (grownBy_putObj' _ _ _) (fun e => by have := Option.some.inj e; omega), by omega, fun d => ?_, hln, HI.out.b.grown (grownBy_putObj' _ _ _) (by have := HI.out.z; omega) (fun k e => by cases e; omega)⟩; rw [seenD_true]; exact HS.out.all HI.out.lt d
 case stop =>
  rintro D c pre W hD hS ⟨rfl, q, x, rfl, h, h0, hx⟩ hK; have c2 := cell_of_one h.n; have HI := ah h; have HS := ah hS; have HK := ah hK; have HDN := ah h0; have HDX := ah hx; clear h hS hK hI0 hnx h0 hx
  gi_wp2
  refine ⟨by simp, .inl ⟨_, _, rfl, run_takeDeferred HK.out, ?_⟩⟩; have hln : q.length <= 10000 := by
   have := iY HPO.out HS.out.lv HS.out.nod; rw [List.length_append] at this; have h2 := HU.out; omega
  refine ⟨_, results_tmp rfl _ _ _, w.heap.size + 1, q.length, bJ q, rfl, HI.out.s.kept (grownBy_putObj' _ _ _) (fun e => by have := Option.some.inj e; omega), by omega, fun d => ?_, hln, HI.out.b.grown (grownBy_putObj' _ _ _) (by have := HI.out.z; omega) (fun k e => by cases e; omega)⟩; rw [seenD_true]; exact HS.out.cut HDN.out HDX.out (fun y hy => (HI.out.lt y hy).resolve_left HDN.out) d
end
section
open Go.Maps
attribute [local go_sem] Oper.semAt_some
section
variable {α : Type} [DecidableEq α] {F : Fence} {n' : Nat} {w : World} {P : Program} {k t e : TypeId} {enc : α -> Value} {sb : α -> List UInt8} {ok : α -> Prop} {b N : Nat} {g : α -> Option Value} {r cnt : Nat} {left : α -> Bool}
omit [DecidableEq α] in
theorem yH {ops : Array Oper} {rest : List Oper} {o : Oper} {a : Act} {Q : Exit -> Act -> World -> Prop} (hgd : o.guard = none) (m : Operand) (t : TypeId) (hop : o.op = Op.range t m)
  (k e : TypeId) (E : KeyE P k enc sb ok) (ht : P.underlying t = some (.map k e)) (b N : Nat) (g : α -> Option Value) (hm : a.eval m = .map (some b)) (h : Gm w P k sb ok b N g)
  (hK : ∀ w' cnt, GmR w' P k sb ok b w.heap.size N g (fun s => (g s).isSome) cnt -> w.grownBy w' none -> w'.heap.size = w.heap.size + 1 -> wpListIn F n' P ops Q rest (a.put o.dst (.pointer (some ⟨w.heap.size, 0, none⟩))) w') : wpListIn F n' P ops Q (o :: rest) a w := by
 obtain ⟨D, h1, h2⟩ := h; refine wpListIn_range_own w hgd m t hop k e (Keyed.of_law E.law) ht dI b N D hm h1 (fun w' h3 h4 h5 => hK w' _ ⟨D, _, h3, h2, fun s hs => (h2 s hs).1⟩ h4 h5)
theorem yL {ops : Array Oper} {rest : List Oper} {o : Oper} {a : Act} {Q : Exit -> Act -> World -> Prop} (hgd : o.guard = none) (it : Operand) (hop : o.op = Op.next it false)
  (k : TypeId) (E : KeyE P k enc sb ok) (b r N : Nat) (g : α -> Option Value) (left : α -> Bool) (cnt : Nat) (hit : a.eval it = .pointer (some ⟨r, 0, none⟩)) (h : GmR w P k sb ok b r N g left cnt)
  (hDone : (∀ s, ok s -> left s = false) -> wpListIn F n' P ops Q rest (a.put o.dst (.tuple #[.bool false])) w)
  (hMore : ∀ (s : α) (v : Value) (w' : World) (cnt' : Nat), ok s -> left s = true -> g s = some v -> GmR w' P k sb ok b r N g (fun z => left z && !decide (z = s)) cnt' -> cnt' < cnt -> w.grownBy w' (some r) -> w'.heap.size = w.heap.size ->
    (Instr.entry (.pointer (some ⟨r, 0, none⟩))).run P w' = .ok (.tuple #[enc s, v]) w' -> wpListIn F n' P ops Q rest (a.put o.dst (.tuple #[.bool true, enc s, v])) w') : wpListIn F n' P ops Q (o :: rest) a w := by
 obtain ⟨D, lf, h1, h2, h3⟩ := h; refine wpListIn_next_ranges (α := {a : α // ok a}) (β := Value) w hgd it hop k (Keyed.of_law E.law) dI (fun s => enc s.1) id (fun key kl hkey => ?_) (fun v y _ => ⟨v, rfl⟩) b r N D lf cnt hit h1
  (fun _ hl => hDone fun s hs => by rw [<- h3 s hs]; exact hl _) (fun s v kl y w' cnt' hkey hlk hv hat hrg hlt hgr hsz hen => ?_)
 . obtain ⟨a, ha, e⟩ := E.inv _ _ hkey; exact ⟨⟨a, ha⟩, e⟩
 . obtain ⟨s, hs⟩ := s
   have e2 : kl = .string (sb s) := by rw [E.of s hs] at hkey; cases hkey; rfl
   subst e2; have hl : left s = true := by rw [<- h3 s hs]; exact hlk
   have hy : y = (.held v, []) := by simp [dI] at hv; exact hv.symm
   subst hy; have hg1 : (g s).isSome = true := by rw [<- (h2 s hs).1]; exact has_true_of_atKey hat
   obtain ⟨u, hu⟩ := Option.isSome_iff_exists.1 hg1; have hg2 : g s = some v := by
    have e1 := (h2 s hs).2 v; rw [hat] at e1; rw [hu] at e1 ⊢; simp at e1; rw [e1]
   exact hMore s v w' cnt' hs hl hg2 ⟨D, _, hrg, h2, fun z hz => by simp only [h3 z hz, wI E hs hz]⟩ hlt hgr hsz hen
end
structure KyE (s : Dig -> Bool) (N : Nat) (pre : List Dig) : Prop where
 nod : pre.Nodup
 mem : ∀ d ∈ pre, bG d /\ s d = true
 few : pre.length <= N
def KyS (s : Dig -> Bool) (N : Nat) (xs : List Dig) : Prop := KyE s N xs /\ ∀ d, bG d -> s d = true -> d ∈ xs
theorem CB (n : Nat) (hn : 1 <= n) (b Bm N hz : Nat) (s : Dig -> Bool) (w : World) (hM : Sd w b N s) (hc : w.heap[Bm]? = some (.cells #[.map (some b)] 63 (0, 0))) (hwz : w.heap.size <= hz) :
  qL Fence.wide n Tryz.prog 78 #[.pointer (some ⟨Bm, 0, none⟩)] (fun d : Dig => #[az d])
   (KeepR hz 132 (fun j => j = b ∨ j = Bm)) (StepR hz 132) (KyE s N) (KyS s N) (KyE s N) hz w := fun l J Jx W hW hWz hJ hY hJ0 => by
 subst hWz; have HM : Hid (Sd W b N s) := hM.below hW hM.lt; have HC : Hid (W.heap[Bm]? = some (.cells #[.map (some b)] 63 (0, 0))) := (hW.block Bm (Array.getElem?_eq_some_iff.1 hc).1).trans hc; have HJ := ah hJ; have HY := ah hY; have HJ0 := ah hJ0; have c0 := cell_of_one HC.out; have hbl : b < W.heap.size := HM.out.lt; have hBl : Bm < W.heap.size := (Array.getElem?_eq_some_iff.1 HC.out).1; clear hM hc hW hJ hY hJ0; refine callsIn_of_wp Tryz.func78 rfl trivial ?_ rfl; simp only [Tryz.ntmps78, List.size_toArray, List.length_cons, List.length_nil, Nat.reduceAdd, Nat.reduceSub, Array.replicate_succ, Array.replicate_zero, List.push_toArray, List.append_toArray, List.nil_append, List.cons_append]
 gi_wp2_with (gi_at_range; refine aI ?_)
 refine aC ?_; refine yH rfl _ 63 rfl 42 4 fD Tryz.underlying63 b N (sv s) rfl HM.out ?_; intro w1 cnt0 hr1 hg1 hz1; have hc0 := xy hr1; have HR1 := ah hr1; have HS1 : Hid (StepR W.heap.size 132 W w1) := StepR.of_grown hg1 (fun g e => by cases e); have HJ1 := ah (HJ.out [] _ _ HJ0.out HS1.out); clear hr1 hg1 c0 HM HC HJ0
 gi_wp2
 go_frame
 gi_loopg [] cnt0 (fun m wr => ∃ (pre : List Dig) (left : Dig -> Bool), Hid (GmR wr Tryz.prog 42 dO bG b W.heap.size N (sv s) left m) /\ Hid (KyE s N pre) /\ Hid (∀ d, bG d -> (left d = true ↔ s d = true /\ d ∉ pre)) /\ pre.length + m <= cnt0 /\ Hid (J pre wr) /\ W.heap.size < wr.heap.size)
 case atStart => exact ⟨[], _, HR1.out, ⟨List.nodup_nil, (fun d h => by cases h), Nat.zero_le _⟩, (fun d _ => by rw [pz]; simp), by simp, HJ1.out, by omega⟩
 case round =>
  obtain ⟨pre, left, hR, hE, hL, hn2, hJr, hwz2⟩ := hrel; have HR := ah hR.out; have HE := ah hE.out; have HL := ah hL.out; have HJr := ah hJr.out; clear hR hE hL hJr HR1 HJ1
  gi_wp2_with (gi_at_next; refine aI ?_)
  refine aC ?_; refine yL rfl _ rfl 42 fD b W.heap.size N (sv s) left gk rfl HR.out ?_ ?_
  . intro hdone
    have HF : Hid (KyS s N pre) := ⟨HE.out, fun d hd hs => Classical.byContradiction fun hm => by
     have h1 := (HL.out d hd).2 ⟨hs, hm⟩; rw [hdone d hd] at h1; cases h1⟩
    clear hdone
    gi_wp2
    go_end0
    exact ⟨⟨_, rfl⟩, .inl ⟨pre, HF.out, HJr.out⟩⟩
  . intro d v w2 cnt2 hok hls hgs hR2 hlt hg2 hz2 hen
    have HR2 : Hid (GmR w2 Tryz.prog 42 dO bG b W.heap.size N (sv s) (fun z => left z && !decide (z = d)) cnt2) := hR2; have HND : Hid (d ∉ pre) := ((HL.out d hok).1 hls).2; have HE2 : Hid (KyE s N (pre ++ [d])) := ⟨List.nodup_append.2 ⟨HE.out.nod, by simp, fun a ha c hc e => HND.out (by rw [List.mem_singleton.1 hc] at e; rw [<- e]; exact ha)⟩, fun x hx => by
     rcases List.mem_append.1 hx with hx | hx
     . exact HE.out.mem x hx
     . rw [List.mem_singleton.1 hx]; exact ⟨hok, pJ hgs⟩, by rw [List.length_append]; simp only [List.length_cons, List.length_nil]; omega⟩
    have HL2 : Hid (∀ x, bG x -> ((left x && !decide (x = d)) = true ↔ s x = true /\ x ∉ pre ++ [d])) := fun x hx => by
     rw [Bool.and_eq_true, HL.out x hx]; simp [and_assoc]
    have HS2 : Hid (StepR W.heap.size 132 wr w2) := StepR.of_grown hg2 (fun g e => by cases e; exact .inl rfl); have HJ2 := ah (HJ.out _ _ _ HJr.out HS2.out); have hz2' : W.heap.size < w2.heap.size := by omega
    obtain ⟨d1, d2⟩ := d; simp only [dgV] at hen; clear hR2 hls hgs hok hg2 hz2 HR HS2 HJr; obtain ⟨W3, hW3⟩ : ∃ V, w2.alloc (.cells #[.int .u64 d1, .int .u64 d2] 42) = V := ⟨_, rfl⟩
    have HK3 : Hid (Bk W3 w2.heap.size 42 #[.int .u64 d1, .int .u64 d2]) := by rw [<- hW3]; exact Bk.new w2 _ _
    have HB3 : Hid (Below w2.heap.size w2 W3) := by rw [<- hW3]; exact (Below.refl _ w2).alloc ai _
    have HR3 := ah (HR2.out.below HB3.out (by omega) hz2'); have HJ3 := ah (HJ.out _ _ _ HJ2.out (StepR.of_below HB3.out)); have zW3 : w2.heap.size < W3.heap.size := HK3.out.lt; obtain ⟨q0, q1, _, _⟩ := HK3.out.two; clear HR2 HJ2 HB3; obtain ⟨fn, tmps, assign, body, hy, hRY⟩ := HY.out pre (d1, d2) W3 HE2.out HJ3.out; simp only [az] at hy; have HRY := ah hRY; clear hRY
    gi_wp2
    refine HRY.out.mono ?_; rintro e W5 (⟨rfl, hJ5, hK5⟩ | ⟨rfl, hJx5⟩)
    . have HJ5 := ah hJ5
      have HR5 := ah (HR3.out.blocks (hK5.block b (by omega) (.inr (.inr (.inl rfl)))) (hK5.block W.heap.size (by omega) (.inl rfl))); have hz5 := hK5.size; clear hJ5 hK5 HRY hy q0 q1 hW3 HR3 HJ3 HK3 hen
      gi_wp2
      gi_roundg cnt2
      case rel => exact ⟨pre ++ [(d1, d2)], _, HR5.out, HE2.out, HL2.out, by rw [List.length_append]; simp only [List.length_cons, List.length_nil]; omega, HJ5.out, by omega⟩
      case measure => exact hlt
    . gi_wp2
      exact bodyPost_ret (results_none rfl _ _ _) rfl ⟨⟨_, rfl⟩, .inr ⟨_, HE2.out, hJx5⟩⟩
theorem EN : ∀ args w, (callFunc 78 args).run Tryz.prog w = .ok (.enter 78 args) w := enters_of Tryz.func78 (by kernel_rfl) rfl
theorem BQ (b : Nat) (w : World) : Calls Tryz.prog 52 #[.map (some b)] w fun e w' => e = .returned (.func (.func 78) #[] #[.pointer (some ⟨w.heap.size, 0, none⟩)]) /\ w' = w.alloc (.cells #[.map (some b)] 63) := by
 go_enter Tryz.func52, Tryz.ntmps52
 go_wp2_with fail; go_ret
 exact ⟨rfl, rfl⟩
end
end Go.Proofs.YtlcecobipgmafaaGreatDoor
namespace Go.Proofs
open Go.Shelf
def Tryz.sortDig_ren : Go.Shelf.Ren := ⟨fun | 6 => 42 | 15 => 64 | 14 => 63 | 28 => 98 | 29 => 99 | 20 => 90 | 21 => 91 | 22 => 92 | 23 => 93 | 24 => 94 | 25 => 95 | 26 => 96 | 27 => 97 | 46 => 123 | 47 => 124 | 48 => 125 | 49 => 126 | 50 => 127 | 57 => 143 | n => n, fun | 22 => 24 | 24 => 42 | 25 => 80 | 3 => 3 | 39 => 114 | 0 => 0 | 53 => 155 | 55 => 40 | 4 => 4 | 46 => 149 | 45 => 148 | 50 => 82 | 5 => 5 | 9 => 9 | 66 => 187 | 70 => 191 | 76 => 204 | 77 => 205 | n => n, fun | n => n⟩
theorem Tryz.sortDig : Go.Proofs.SlLaysF0.n6 Tryz.prog Tryz.sortDig_ren := {
 mixed := by kernel_rfl
 f6 := ⟨Tryz.f42.name, by decide, Tryz.func42.trans (congrArg some (by kernel_rfl))⟩
 f14 := ⟨Tryz.f63.name, by decide, Tryz.func63.trans (congrArg some (by kernel_rfl))⟩
 f15 := Tryz.func64.trans (congrArg some (by kernel_rfl))
 f20 := ⟨Tryz.f90.name, by decide, Tryz.func90.trans (congrArg some (by kernel_rfl))⟩
 f21 := ⟨Tryz.f91.name, by decide, Tryz.func91.trans (congrArg some (by kernel_rfl))⟩
 f22 := ⟨Tryz.f92.name, by decide, Tryz.func92.trans (congrArg some (by kernel_rfl))⟩
 f23 := ⟨Tryz.f93.name, by decide, Tryz.func93.trans (congrArg some (by kernel_rfl))⟩
 f24 := ⟨Tryz.f94.name, by decide, Tryz.func94.trans (congrArg some (by kernel_rfl))⟩
 f25 := ⟨Tryz.f95.name, by decide, Tryz.func95.trans (congrArg some (by kernel_rfl))⟩
 f26 := ⟨Tryz.f96.name, by decide, Tryz.func96.trans (congrArg some (by kernel_rfl))⟩
 f27 := ⟨Tryz.f97.name, by decide, Tryz.func97.trans (congrArg some (by kernel_rfl))⟩
 f28 := Tryz.func98.trans (congrArg some (by kernel_rfl))
 f29 := Tryz.func99.trans (congrArg some (by kernel_rfl))
 f46 := ⟨Tryz.f123.name, by decide, Tryz.func123.trans (congrArg some (by kernel_rfl))⟩
 f47 := Tryz.func124.trans (congrArg some (by kernel_rfl))
 f48 := Tryz.func125.trans (congrArg some (by kernel_rfl))
 f49 := ⟨Tryz.f126.name, by decide, Tryz.func126.trans (congrArg some (by kernel_rfl))⟩
 f50 := ⟨Tryz.f127.name, by decide, Tryz.func127.trans (congrArg some (by kernel_rfl))⟩
 f57 := ⟨Tryz.f143.name, by decide, Tryz.func143.trans (congrArg some (by kernel_rfl))⟩
 t0 := Tryz.underlying0
 a0 := Tryz.isAgg0
 z0 := Tryz.sizeOf0
 v0 := Tryz.zeroValue0
 t3 := Tryz.underlying3
 a3 := Tryz.isAgg3
 z3 := Tryz.sizeOf3
 v3 := Tryz.zeroValue3
 t4 := Tryz.underlying4
 a4 := Tryz.isAgg4
 z4 := Tryz.sizeOf4
 v4 := Tryz.zeroValue4
 t5 := Tryz.underlying5
 a5 := Tryz.isAgg5
 z5 := Tryz.sizeOf5
 v5 := Tryz.zeroValue5
 t9 := Tryz.underlying9
 a9 := Tryz.isAgg9
 z9 := Tryz.sizeOf9
 v9 := Tryz.zeroValue9
 t22 := Tryz.underlying24
 a22 := Tryz.isAgg24
 z22 := Tryz.sizeOf24
 v22 := Tryz.zeroValue24
 t25 := Tryz.underlying80
 a25 := Tryz.isAgg80
 z25 := Tryz.sizeOf80
 v25 := Tryz.zeroValue80
 t39 := Tryz.underlying114
 a39 := Tryz.isAgg114
 z39 := Tryz.sizeOf114
 v39 := Tryz.zeroValue114
 t45 := Tryz.underlying148
 a45 := Tryz.isAgg148
 z45 := Tryz.sizeOf148
 v45 := Tryz.zeroValue148
 t46 := Tryz.underlying149
 a46 := Tryz.isAgg149
 z46 := Tryz.sizeOf149
 v46 := Tryz.zeroValue149
 t50 := Tryz.underlying82
 a50 := Tryz.isAgg82
 z50 := Tryz.sizeOf82
 v50 := Tryz.zeroValue82
 t53 := Tryz.underlying155
 a53 := Tryz.isAgg155
 z53 := Tryz.sizeOf155
 v53 := Tryz.zeroValue155
 t55 := Tryz.underlying40
 a55 := Tryz.isAgg40
 z55 := Tryz.sizeOf40
 v55 := Tryz.zeroValue40
 t66 := Tryz.underlying187
 a66 := Tryz.isAgg187
 z66 := Tryz.sizeOf187
 v66 := Tryz.zeroValue187
 t70 := Tryz.underlying191
 a70 := Tryz.isAgg191
 z70 := Tryz.sizeOf191
 v70 := Tryz.zeroValue191
 t76 := Tryz.underlying204
 a76 := Tryz.isAgg204
 z76 := Tryz.sizeOf204
 v76 := Tryz.zeroValue204
 t77 := Tryz.underlying205
 a77 := Tryz.isAgg205
 z77 := Tryz.sizeOf205
 v77 := Tryz.zeroValue205 }
end Go.Proofs
namespace Go.Proofs.YtlcecobipgmafaaGreatDoor
open Go.RowKit
section
open Go.RowKit Go.Shelf Go.Sort Go.Lib
attribute [local go_sem] Oper.semAt_some
instance : Inhabited Fl := ⟨(⟨#[]⟩, ⟨#[]⟩)⟩
theorem yV (off n : Nat) (d : Array Value) (cur : Array Value) (hd : d.size = n) (ho : off = 0) (hn : n <= cur.size) : (putCells id off d cur).toList.take n = d.toList := by
 subst ho hd; apply List.ext_getElem?
 intro k; rw [List.getElem?_take]; by_cases hk : k < d.size
 . have hk2 : k < cur.size := by omega
   rw [if_pos hk]; simp [putCells, hk, hk2]
 . rw [if_neg hk, List.getElem?_eq_none (by simp; omega)]
end
end Go.Proofs.YtlcecobipgmafaaGreatDoor
