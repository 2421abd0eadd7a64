/-
  Lemmas of the card.
-/
import Derived.Test.YtlcecobipgmafaaGreatDoorNCNd15
import Derived.Test.YtlcecobipgmafaaGreatDoorNCNd9
import Derived.Test.YtlcecobipgmafaaGreatDoorNCNd8
import Derived.Test.YtlcecobipgmafaaGreatDoorNCNd7
set_option maxRecDepth 100000
set_option maxHeartbeats 32000000
namespace Go.Proofs.YtlcecobipgmafaaGreatDoor
open Go.RowKit
section
open Go.Maps
theorem dS {U : List Dig} {w w' : World} {A : OA} {n c : Nat} {l : List Dig} {b : Nat} {t : TypeId} {A0 A2 A3 A4 A5 : OA} {n0 c0 n2 c2 n3 c3 n4 c4 n5 c5 : Nat} {q : ByteArray} {v : Bool} (h : Lst7 U w A n c l)
  (hz : Bk w b t #[.slice A0 n0 c0, .string q, .slice A2 n2 c2, .slice A3 n3 c3, .slice A4 n4 c4, .slice A5 n5 c5, .bool v]) (hw : ∀ k, k ≠ b -> w'.heap[k]? = w.heap[k]?) (hs : w.heap.size <= w'.heap.size) : Lst7 U w' A n c l := by
 refine ⟨(h.s.ne (b := b) ?_ hw).more hs, h.le, h.mx, h.asc, h.u⟩; rintro a h0 ha rfl; obtain ⟨b', off, d, rfl', _, _, h1, _⟩ := h.s.dg h0; rw [ha] at rfl'; cases rfl'
 rw [hz.cell] at h1; simp only [Nat.zero_mul, Nat.add_zero] at h1
 match off, h1 with
 | 0, h1 | 1, h1 | 2, h1 | 3, h1 | 4, h1 | 5, h1 | 6, h1 => simp at h1
 | j + 7, h1 => simp at h1
theorem gz {p : List Itm} {U : List Dig} {w w' : World} {s : RkS} {fA mA cA hA : OA} {fn fc mn mc cn cc hn hc : Nat} {com : List Dig} {b : Nat} {t : TypeId} {A0 A2 A3 A4 A5 : OA} {n0 c0 n2 c2 n3 c3 n4 c4 n5 c5 : Nat} {q : ByteArray} {v : Bool} (h : Rk7 p U w s fA fn fc mA mn mc cA cn cc hA hn hc com)
  (hz : Bk w b t #[.slice A0 n0 c0, .string q, .slice A2 n2 c2, .slice A3 n3 c3, .slice A4 n4 c4, .slice A5 n5 c5, .bool v]) (hw : ∀ k, k ≠ b -> w'.heap[k]? = w.heap[k]?) (hs : w.heap.size <= w'.heap.size) : Rk7 p U w' s fA fn fc mA mn mc cA cn cc hA hn hc com := by
 obtain ⟨f, m, l, h1, h2, h3, h4, h5⟩ := h; exact ⟨f, m, l, dS h1 hz hw hs, dS h2 hz hw hs, dS h3 hz hw hs, dS h4 hz hw hs, h5⟩
theorem xw {fn : Func} {i : Tmp} (h : fn.results = #[.cell i 70]) {w : World} {a : Array Value} {b' : Nat} {x0 x1 x2 x3 x4 x5 x6 : Value} (ha' : a[i]?.getD undef = .pointer (some ⟨b', 0, none⟩)) (hk' : Bk w b' 70 #[x0, x1, x2, x3, x4, x5, x6]) :
  (results fn a).run Tryz.prog w = .ok (.agg #[x0, x1, x2, x3, x4, x5, x6]) w := by
 obtain ⟨k0, k1, k2, k3, k4, k5, k6⟩ := aR hk'; simp [results, h, ha', go_sem, k0, k1, k2, k3, k4, k5, k6]
theorem Fg (pre : Bytes) (s : RkS) (d : Dig) (q : Bytes) : (rdS pre s d q).wr = s.wr := by unfold rdS; split <;> rfl
theorem FE (pre : Bytes) (s : RkS) (d : Dig) (q : Bytes) : (rdS pre s d q).ne = s.ne := by unfold rdS; split <;> rfl
def qU (p : List Itm) (U : List Dig) (pA : OA) (pn pc : Nat) (pre : ByteArray) (cA : OA) (cn cc : Nat) (com : List Dig) (s : RkS) (d : Dig) (q : ByteArray) (w : World) (e : Ending) (w' : World) : Prop :=
 ∃ (s' : RkS) (fA : OA) (fn fc : Nat) (mA : OA) (mn mc : Nat) (hA : OA) (hn hc : Nat),
  e = .returned (rkV pA pn pc pre fA fn fc mA mn mc cA cn cc hA hn hc s'.wr) /\ Rk7 p U w' s' fA fn fc mA mn mc cA cn cc hA hn hc com /\ ji p (toL pre) s s' d (toL q) /\ Below w.heap.size w w'
def qV (n : Nat) : Prop := ∀ (p : List Itm) (U : List Dig) (pA : OA) (pn pc : Nat) (pre : ByteArray) (fA : OA) (fn fc : Nat) (mA : OA) (mn mc : Nat) (cA : OA) (cn cc : Nat) (hA : OA) (hn hc : Nat) (com : List Dig) (s : RkS) (d : Dig) (q : ByteArray) (w : World),
  Sl w w.heap.size 3 pA pn (flat itC p) -> Rk7 p U w s fA fn fc mA mn mc cA cn cc hA hn hc com -> pn <= 40 -> PlOk p -> d ∈ U -> U.length <= 9000 -> WfD d -> pre.size <= 100 -> (∀ x o y, ay p x = some o -> y ∈ dX o -> y ∈ U) -> rdM U (toL pre) s (toL q) < n -> q.size + 120 * rdM U (toL pre) s (toL q) <= 2000000 ->
  Calls Tryz.prog 54 #[rkV pA pn pc pre fA fn fc mA mn mc cA cn cc hA hn hc s.wr, az d, .string q] w (qU p U pA pn pc pre cA cn cc com s d q w)
theorem Bl (n : Nat) (ih : qV n) : qV (n + 1) := by
 intro p U pA pn pc pre fA fn fc mA mn mc cA cn cc hA hn hc com s0 d q w hp hk hpn hpo hd hU hw hpre hUc hM hq; obtain ⟨d1, d2⟩ := d; have HD := ah hd; have HPO := ah hpo; have HK := ah hk; have HUL := ah hU; have HW := ah hw; have HUC := ah hUc; have HM := ah hM; have HQ := ah hq; have IH := ah ih; have HP := ah hp; have HPRE := ah hpre; obtain ⟨W0, hW0⟩ : ∃ W, (((w.alloc (.cells #[.slice pA pn pc, .string pre, .slice fA fn fc, .slice mA mn mc, .slice cA cn cc, .slice hA hn hc, .bool s0.wr] 70)).alloc (.cells #[.int .u64 d1, .int .u64 d2] 42)).alloc (.cells #[.slice none 0 0, .string ⟨#[]⟩, .slice none 0 0, .slice none 0 0, .slice none 0 0, .slice none 0 0, .bool false] 70)) = W := ⟨_, rfl⟩
 have HB0 : Hid (Below w.heap.size w W0) := by rw [<- hW0]; exact ((((Below.refl _ w).alloc ai _).alloc (by simp) _).alloc (by simp <;> omega) _)
 have HK0 : Hid (Bk W0 w.heap.size 70 #[.slice pA pn pc, .string pre, .slice fA fn fc, .slice mA mn mc, .slice cA cn cc, .slice hA hn hc, .bool s0.wr]) := by rw [<- hW0]; exact ((Bk.new w _ _).alloc _).alloc _
 have HKd : Hid (Bk W0 (w.heap.size + 1) 42 #[.int .u64 d1, .int .u64 d2]) := by
  have := Bk.new (w.alloc (.cells #[.slice pA pn pc, .string pre, .slice fA fn fc, .slice mA mn mc, .slice cA cn cc, .slice hA hn hc, .bool s0.wr] 70)) 42 #[.int .u64 d1, .int .u64 d2]; rw [World.size_alloc] at this; rw [<- hW0]; exact this.alloc _
 have HKw : Hid (Bk W0 (w.heap.size + 1 + 1) 70 zwC) := by
  have := Bk.new ((w.alloc (.cells #[.slice pA pn pc, .string pre, .slice fA fn fc, .slice mA mn mc, .slice cA cn cc, .slice hA hn hc, .bool s0.wr] 70)).alloc (.cells #[.int .u64 d1, .int .u64 d2] 42)) 70 #[.slice none 0 0, .string ⟨#[]⟩, .slice none 0 0, .slice none 0 0, .slice none 0 0, .slice none 0 0, .bool false]; rw [World.size_alloc, World.size_alloc] at this; rw [<- hW0]; exact this
 have z0 : w.heap.size + 1 + 1 < W0.heap.size := HKw.out.lt; have HB1 := ah (kD q pre W0 (by unfold maxLen; omega)); rw [iK] at HB1; unfold rkV az; obtain ⟨x0, x1, x2, x3, x4, x5, x6⟩ := aR HK0.out; obtain ⟨y0, y1, _, _⟩ := HKd.out.two; have HW0 := ah hW0; rw [<- hW0] at x0 x1 x2 x3 x4 x5 x6 y0 y1; clear hd hpo hk hp hW0 hU hw hUc hM hq ih hpre
 go_enter Tryz.func54, Tryz.ntmps54
 go_wp2_with fail; rw [HW0.out]; refine HB1.out.mono ?_; rintro e w1 ⟨rfl, rfl⟩; rw [HW0.out] at x0 x1 x2 x3 x4 x5 x6 y0 y1; by_cases hpq : toL pre <+: toL q
 case' neg =>
  rw [decide_eq_false hpq]; have HPQ := ah hpq; obtain ⟨hA5, hn5, hc5, s5, w5, h1, h2, h3, h4, h5⟩ : ∃ A n c s W, A = hA /\ n = hn /\ c = hc /\ s = s0 /\ W = W0 := ⟨_, _, _, _, _, rfl, rfl, rfl, rfl, rfl⟩
  have HS5 : Hid (rdS (toL pre) s0 (d1, d2) (toL q) = s5) := by rw [h4]; exact oL hpq
  have HV5 : Hid (toL pre <+: toL q -> s0.wh (d1, d2) = false) := fun h => absurd h hpq; have HB5 : Hid (Below w.heap.size w w5) := by rw [h5]; exact HB0.out
  have HK5 : Hid (Bk w5 w.heap.size 70 #[.slice pA pn pc, .string pre, .slice fA fn fc, .slice mA mn mc, .slice cA cn cc, .slice hA5 hn5 hc5, .bool s5.wr]) := by rw [h1, h2, h3, h4, h5]; exact HK0.out
  have HKd5 : Hid (Bk w5 (w.heap.size + 1) 42 #[.int .u64 d1, .int .u64 d2]) := by rw [h5]; exact HKd.out
  have HKw5 : Hid (Bk w5 (w.heap.size + 1 + 1) 70 zwC) := by rw [h5]; exact HKw.out
  have HR5 : Hid (Rk7 p U w5 s5 fA fn fc mA mn mc cA cn cc hA5 hn5 hc5 com) := by rw [h1, h2, h3, h4, h5]; exact HK.out.bel HB0.out
  rw [<- h5]; clear h1 h2 h3 h4 h5 hpq HB1 HW0 x0 x1 x2 x3 x4 x5 x6 y0 y1 HK0 HKd HKw HB0 z0; obtain ⟨x0, x1, x2, x3, x4, x5, x6⟩ := aR HK5.out; obtain ⟨y0, y1, _, _⟩ := HKd5.out.two; go_wp2_with fail; clear x0 x1 x2 x3 x4 x5 x6 y0 y1
 case' pos =>
  rw [decide_eq_true hpq]; have HPQ := ah hpq; clear hpq HB1 HW0; obtain ⟨f, m, l, L1, L2, L3, L4, hne, hf, hm, hh⟩ := HK.out.lists; have hln : hn <= 9000 := L4.len HUL.out; have HIN := ah (jK hA hn hc W0.heap.size l (d1, d2) W0 (L4.bel HB0.out).s ai (by omega)); simp only [az] at HIN; have HL := ah (And.intro L1 (And.intro L2 (And.intro L3 (And.intro L4 (And.intro hne (And.intro hf (And.intro hm hh))))))); clear L1 L2 L3 L4 hne hf hm hh; go_wp2_with fail; refine HIN.out.mono ?_; rintro e w2 ⟨rfl, hb2⟩; have HB2 : Hid (Below w.heap.size w w2) := HB0.out.trans (hb2.mono HB0.out.size); have HK2 := ah (HK0.out.below hb2 HK0.out.lt); have HKd2 := ah (HKd.out.below hb2 HKd.out.lt); have HKw2 := ah (HKw.out.below hb2 HKw.out.lt); clear hb2 HIN x0 x1 x2 x3 x4 x5 x6 y0 y1 HK0 HKd HKw HB0 z0; have z2 : w.heap.size + 1 + 1 < w2.heap.size := HKw2.out.lt; obtain ⟨x0, x1, x2, x3, x4, x5, x6⟩ := aR HK2.out; obtain ⟨y0, y1, _, _⟩ := HKd2.out.two; have hww : w.heap.size ≠ w.heap.size + 1 + 1 := by omega
  by_cases hin : (d1, d2) ∈ l
  case pos =>
   rw [decide_eq_true hin]; have HIN := ah hin; clear hin; obtain ⟨v0, v1, v2, v3, v4, v5, v6⟩ := aR HKw2.out; obtain ⟨f0, f1, f2, f3, f4, f5, f6⟩ := fr7 HKw2.out; go_wp2_with fail; refine bodyPost_ret (xw Tryz.results54 rfl (dE HKw2.out _ _ _ _ _ _ _)) rfl ?_; obtain ⟨L1, L2, L3, L4, hne, hf, hm, hh⟩ := HL.out; have hBF := dD HB2.out (b := w.heap.size + 1 + 1) (by omega) (.slice pA pn pc) (.string pre) (.slice fA fn fc) (.slice mA mn mc) (.slice cA cn cc) (.slice hA hn hc) (.bool s0.wr); exact ⟨s0, fA, fn, fc, mA, mn, mc, hA, hn, hc, rfl, HK.out.bel hBF, Dh HPQ.out ((hh _).2 HIN.out), hBF⟩
  case' neg =>
   rw [decide_eq_false hin]; have HNI := ah hin; clear hin; have HWI := ah (iB hA hn hc w2.heap.size l (d1, d2) w2 (HL.out.2.2.2.1.bel HB2.out).s ai HL.out.2.2.2.1.le HL.out.2.2.2.1.mx (by omega) HL.out.2.2.2.1.asc); unfold iw at HWI; simp only [az] at HWI; go_wp2_with fail; refine HWI.out.mono ?_; rintro e w3 ⟨l', hA5, hc5, hasc, hmem, hlen, rfl, hwh, hlc, hcm, hb3⟩; have HB3 : Hid (Below w.heap.size w w3) := HB2.out.trans (hb3.mono HB2.out.size); have HK3 := ah (HK2.out.below hb3 HK2.out.lt); have HKd3 := ah (HKd2.out.below hb3 HKd2.out.lt); have HKw3 := ah (HKw2.out.below hb3 HKw2.out.lt); have z3 : w2.heap.size <= w3.heap.size := hb3.size; have HA := ah hasc; have HME := ah hmem; have HWH := ah hwh; obtain ⟨hn5, hhn⟩ : ∃ n, l'.length = n := ⟨_, rfl⟩
   have HHN := ah hhn; rw [hhn]; clear hb3 HWI x0 x1 x2 x3 x4 x5 x6 y0 y1 HK2 HKd2 HKw2 hasc hmem hwh hhn; obtain ⟨x0, x1, x2, x3, x4, x5, x6⟩ := aR HK3.out; obtain ⟨y0, y1, _, _⟩ := HKd3.out.two; have f0 := HK3.out.free 5; go_wp2_with fail; clear x0 x1 x2 x3 x4 x5 x6 y0 y1 f0; obtain ⟨w5, hw5⟩ : ∃ W, w3.setCell ⟨w.heap.size, 5, none⟩ (.slice hA5 hn5 hc5) = W := ⟨_, rfl⟩
   obtain ⟨s5, hs5⟩ : ∃ s, rdS (toL pre) s0 (d1, d2) (toL q) = s := ⟨_, rfl⟩
   have HS5 := ah hs5; obtain ⟨L1, L2, L3, L4, hne, hf, hm, hh⟩ := HL.out; have HV5 : Hid (toL pre <+: toL q -> s0.wh (d1, d2) = false) := fun _ => by
    cases h : s0.wh (d1, d2) with
    | false => rfl
    | true => exact absurd ((hh _).1 h) HNI.out
   have HB5 : Hid (Below w.heap.size w w5) := by rw [<- hw5]; exact HB3.out.setCell (p := ⟨w.heap.size, 5, none⟩) ai _
   have hwr : s0.wr = s5.wr := by rw [<- hs5, Fg]
   have HK5 : Hid (Bk w5 w.heap.size 70 #[.slice pA pn pc, .string pre, .slice fA fn fc, .slice mA mn mc, .slice cA cn cc, .slice hA5 hn5 hc5, .bool s5.wr]) := by
    have := HK3.out.set 5 (.slice hA5 hn5 hc5); rw [hw5, hwr] at this; exact this
   have HKd5 : Hid (Bk w5 (w.heap.size + 1) 42 #[.int .u64 d1, .int .u64 d2]) := by rw [<- hw5]; exact HKd3.out.far (by show _ ≠ w.heap.size; omega) _
   have HKw5 : Hid (Bk w5 (w.heap.size + 1 + 1) 70 zwC) := by rw [<- hw5]; exact HKw3.out.far (by show _ ≠ w.heap.size; omega) _
   have HR5 : Hid (Rk7 p U w5 s5 fA fn fc mA mn mc cA cn cc hA5 hn5 hc5 com) := by
    refine ⟨f, m, l', L1.bel HB5.out, L2.bel HB5.out, L3.bel HB5.out, ?_, ?_, hf, hm, ?_⟩
    . have h9 := iE (W5 := w2) (w6 := w3) L4 HB5.out (fun k hk => by rw [<- hw5]; exact Below.heap_setCell _ _ _ k (by show k ≠ w.heap.size; omega)) (by rw [<- hw5]; simp) HD.out HA.out HME.out HWH.out hlc hcm
      rw [HHN.out] at h9; exact h9
    . rw [<- hs5, FE]; exact hne
    . intro x
      rw [<- hs5, pM HPQ.out, HME.out, setB_true, hh]
   rw [hw5, hwr]; clear hw5 hs5 hwr L1 L2 L3 L4 hne hf hm hh HB3 HK3 HKd3 HKw3 HWH HME HA HHN HNI HL HB2 z2 z3
 all_goals
  have z5 : w.heap.size + 1 + 1 < w5.heap.size := HKw5.out.lt; have HG := ah (nX p U pA pn pc pre fA fn fc mA mn mc cA cn cc hA5 hn5 hc5 com s5 (d1, d2) 2 w5 ((HP.out.below HB5.out ai).more HB5.out.size) HR5.out hpn HPO.out HD.out HUL.out HW.out); unfold G7E at HG; simp only [rkV, az] at HG; obtain ⟨r, hr⟩ : ∃ r, aW p s5 (d1, d2) 2 = r := ⟨_, rfl⟩
  simp only [hr] at HG; obtain ⟨s6, r6⟩ := r; have HGR := ah hr; clear hr; simp only at HG; refine HG.out.mono ?_; rintro e w6 ⟨o, sl, fA6, fn6, fc6, mA6, mn6, mc6, ok, rfl, hR6, hok, hb6, _, _⟩; have HB6 : Hid (Below w.heap.size w w6) := HB5.out.trans (hb6.mono HB5.out.size); have HK6 := ah (HK5.out.below hb6 HK5.out.lt); have HKw6 := ah (HKw5.out.below hb6 HKw5.out.lt); have HR6 := ah hR6; have HOK := ah hok; have z6 : w.heap.size + 1 + 1 < w6.heap.size := HKw6.out.lt; clear hb6 HG HR5 HK5 HKd5 HKw5 HB5 z5 hR6 hok; obtain ⟨x0, x1, x2, x3, x4, x5, x6⟩ := aR HK6.out; obtain ⟨f0, f1, f2, f3, f4, f5, f6⟩ := fr7 HK6.out; have hne1 : w.heap.size ≠ w6.heap.size := by omega
  have hne2 : w6.heap.size ≠ w.heap.size := by omega
  have hlt1 : w.heap.size < w6.heap.size := by omega
  simp only [obV, obC]; go_wp2_with fail; obtain ⟨eA, en, ec, qA, qn, qc⟩ := sl; obtain ⟨w7, hw7⟩ : ∃ W, (((((((w6.setCell ⟨w.heap.size, 0, none⟩ (.slice pA pn pc)).setCell ⟨w.heap.size, 1, none⟩ (.string pre)).setCell ⟨w.heap.size, 2, none⟩ (.slice fA6 fn6 fc6)).setCell ⟨w.heap.size, 3, none⟩ (.slice mA6 mn6 mc6)).setCell ⟨w.heap.size, 4, none⟩ (.slice cA cn cc)).setCell ⟨w.heap.size, 5, none⟩ (.slice hA5 hn5 hc5)).setCell ⟨w.heap.size, 6, none⟩ (.bool s6.wr)).alloc (.cells #[.int .i64 o.kind, .string o.data, .slice eA en ec, .int .u64 o.tree.1, .int .u64 o.tree.2, .slice qA qn qc, .string o.auth, .int .i64 o.time, .string o.msg] 75) = W := ⟨_, rfl⟩
  have HB7 : Hid (Below w.heap.size w w7) := by
   have h1 := dD HB6.out ai (.slice pA pn pc) (.string pre) (.slice fA6 fn6 fc6) (.slice mA6 mn6 mc6) (.slice cA cn cc) (.slice hA5 hn5 hc5) (.bool s6.wr); rw [<- hw7]; exact h1.alloc h1.size _
  have HK7 : Hid (Bk w7 w.heap.size 70 #[.slice pA pn pc, .string pre, .slice fA6 fn6 fc6, .slice mA6 mn6 mc6, .slice cA cn cc, .slice hA5 hn5 hc5, .bool s6.wr]) := by rw [<- hw7]; exact (dE HK6.out _ _ _ _ _ _ _).alloc _
  have HKw7 : Hid (Bk w7 (w.heap.size + 1 + 1) 70 zwC) := by rw [<- hw7]; exact (dW HKw6.out (by omega) _ _ _ _ _ _ _).alloc _
  have HKo7 : Hid (Bk w7 w6.heap.size 75 #[.int .i64 o.kind, .string o.data, .slice eA en ec, .int .u64 o.tree.1, .int .u64 o.tree.2, .slice qA qn qc, .string o.auth, .int .i64 o.time, .string o.msg]) := by
   have h1 := Bk.new (((((((w6.setCell ⟨w.heap.size, 0, none⟩ (.slice pA pn pc)).setCell ⟨w.heap.size, 1, none⟩ (.string pre)).setCell ⟨w.heap.size, 2, none⟩ (.slice fA6 fn6 fc6)).setCell ⟨w.heap.size, 3, none⟩ (.slice mA6 mn6 mc6)).setCell ⟨w.heap.size, 4, none⟩ (.slice cA cn cc)).setCell ⟨w.heap.size, 5, none⟩ (.slice hA5 hn5 hc5)).setCell ⟨w.heap.size, 6, none⟩ (.bool s6.wr)) 75 #[.int .i64 o.kind, .string o.data, .slice eA en ec, .int .u64 o.tree.1, .int .u64 o.tree.2, .slice qA qn qc, .string o.auth, .int .i64 o.time, .string o.msg]; rw [hw7] at h1; show Bk _ _ _ _
   simpa using h1
  have hs7 : w6.heap.size < w7.heap.size := HKo7.out.lt; have HR7 : Hid (Rk7 p U w7 s6 fA6 fn6 fc6 mA6 mn6 mc6 cA cn cc hA5 hn5 hc5 com) := by
   have h1 := gz HR6.out HK6.out (fun k hk => cK (b' := w.heap.size) hk (.slice pA pn pc) (.string pre) (.slice fA6 fn6 fc6) (.slice mA6 mn6 mc6) (.slice cA cn cc) (.slice hA5 hn5 hc5) (.bool s6.wr)) (by simp); rw [<- hw7]; exact h1.bel ((Below.refl _ _).alloc ai _)
  have HOM7 : Hid (ok = true -> ObM w7 w7.heap.size o ⟨eA, en, ec, qA, qn, qc⟩) := fun hk => by
   rcases HOK.out with ⟨h1, _⟩ | ⟨_, _, _, h1⟩
   . rw [hk] at h1; cases h1
   . have h2 := (gU h1 HK6.out (fun k hk => cK (b' := w.heap.size) hk (.slice pA pn pc) (.string pre) (.slice fA6 fn6 fc6) (.slice mA6 mn6 mc6) (.slice cA cn cc) (.slice hA5 hn5 hc5) (.bool s6.wr))).more (B' := (((((((w6.setCell ⟨w.heap.size, 0, none⟩ (.slice pA pn pc)).setCell ⟨w.heap.size, 1, none⟩ (.string pre)).setCell ⟨w.heap.size, 2, none⟩ (.slice fA6 fn6 fc6)).setCell ⟨w.heap.size, 3, none⟩ (.slice mA6 mn6 mc6)).setCell ⟨w.heap.size, 4, none⟩ (.slice cA cn cc)).setCell ⟨w.heap.size, 5, none⟩ (.slice hA5 hn5 hc5)).setCell ⟨w.heap.size, 6, none⟩ (.bool s6.wr)).heap.size) (by simp)
     have h3 := h2.below ((Below.refl _ (((((((w6.setCell ⟨w.heap.size, 0, none⟩ (.slice pA pn pc)).setCell ⟨w.heap.size, 1, none⟩ (.string pre)).setCell ⟨w.heap.size, 2, none⟩ (.slice fA6 fn6 fc6)).setCell ⟨w.heap.size, 3, none⟩ (.slice mA6 mn6 mc6)).setCell ⟨w.heap.size, 4, none⟩ (.slice cA cn cc)).setCell ⟨w.heap.size, 5, none⟩ (.slice hA5 hn5 hc5)).setCell ⟨w.heap.size, 6, none⟩ (.bool s6.wr))).alloc ai (.cells #[.int .i64 o.kind, .string o.data, .slice eA en ec, .int .u64 o.tree.1, .int .u64 o.tree.2, .slice qA qn qc, .string o.auth, .int .i64 o.time, .string o.msg] 75)) ai; rw [hw7] at h3; exact h3.more (by rw [<- hw7]; simp)
  have HOO : Hid (ok = true -> OkO o /\ r6 = some o) := fun hk => by
   rcases HOK.out with ⟨h1, _⟩ | ⟨_, h2, h1, _⟩
   . rw [hk] at h1; cases h1
   . exact ⟨h1, h2⟩
  have HON : Hid (ok = false -> r6 = none) := fun hk => by
   rcases HOK.out with ⟨_, h1⟩ | ⟨h1, _⟩
   . exact h1
   . rw [hk] at h1; cases h1
  rw [hw7]; obtain ⟨bo, hbo⟩ : ∃ b, b = w6.heap.size := ⟨_, rfl⟩
  rw [<- hbo] at HKo7 hs7 z6; rw [<- hbo]; clear x0 x1 x2 x3 x4 x5 x6 f0 f1 f2 f3 f4 f5 f6 hne1 hne2 hlt1 hw7 HB6 HK6 HKw6 HR6 HOK hbo; have HLE : Hid (LeK (rdS (toL pre) s0 (d1, d2) (toL q)) s6) := by
   have h1 := mf (p := p) s5 (d1, d2) 2; rw [HGR.out] at h1; rw [HS5.out]; exact h1
  go_loopw [9] (fun i wr => ∃ (j : Nat) (sj : RkS) (fJ : OA) (fnj fcj : Nat) (mJ : OA) (mnj mcj : Nat) (hJ : OA) (hnj hcj : Nat), i = .int .i64 (j : Int) /\ Hid ((ok = false /\ sj = s6) ∨ (ok = true /\ j <= en /\ DirJ p (toL pre) (d1, d2) (toL q) o s6 sj j /\ ObM wr wr.heap.size o ⟨eA, en, ec, qA, qn, qc⟩)) /\ Hid (Bk wr w.heap.size 70 #[.slice pA pn pc, .string pre, .slice fJ fnj fcj, .slice mJ mnj mcj, .slice cA cn cc, .slice hJ hnj hcj, .bool sj.wr]) /\ Hid (Bk wr (w.heap.size + 1 + 1) 70 zwC) /\ Hid (Bk wr bo 75 #[.int .i64 o.kind, .string o.data, .slice eA en ec, .int .u64 o.tree.1, .int .u64 o.tree.2, .slice qA qn qc, .string o.auth, .int .i64 o.time, .string o.msg]) /\ Hid (Rk7 p U wr sj fJ fnj fcj mJ mnj mcj cA cn cc hJ hnj hcj com) /\ Hid (Below w.heap.size w wr)) (fun i _ => en - (intOf i).toNat)
  case atStart =>
   refine ⟨0, s6, _, _, _, _, _, _, _, _, _, rfl, ?_, HK7.out, HKw7.out, HKo7.out, HR7.out, HB7.out⟩; show _ ∨ _; cases ok with
   | false => exact .inl ⟨rfl, rfl⟩
   | true => exact .inr ⟨rfl, Nat.zero_le _, DirJ.start (by rw [HGR.out, (HOO.out rfl).2]), HOM7.out rfl⟩
  case round =>
   obtain ⟨j, sj, fJ, fnj, fcj, mJ, mnj, mcj, hJ, hnj, hcj, rfl, hJ0, hKr, hKwr, hKor, hRr, hBr⟩ := hrel; have HJ := ah hJ0.out; have HKr := ah hKr.out; have HKwr := ah hKwr.out; have HKor := ah hKor.out; have HRr := ah hRr.out; have HBr := ah hBr.out; have zr : w.heap.size + 1 + 1 < wr.heap.size := HKwr.out.lt; have zo : bo < wr.heap.size := HKor.out.lt; clear hJ0 hKr hKwr hKor hRr hBr HK7 HKw7 HKo7 HR7 HB7 HOM7; obtain ⟨k0, k1, k2, k3, k4, k5, k6, k7, k8⟩ := HKor.out.nine; clear k0 k1 k3 k4 k5 k6 k7 k8; by_cases hgo : ok = true /\ j < en
   case neg =>
    have HDQ : Hid (ji p (toL pre) s0 sj (d1, d2) (toL q)) := by
     refine CO (s1 := s6) (r := r6) (by rw [HS5.out]; exact HGR.out) ?_; rcases HJ.out with ⟨h1, h2⟩ | ⟨h1, h2, h3, h4⟩
     . exact .inl ⟨HON.out h1, h2⟩
     . refine .inr ⟨o, (HOO.out h1).2, ?_⟩
       have h5 := h4.elen; simp only at h5; have h6 : j = o.ents.length := by
        have : ¬ j < en := fun h => hgo ⟨h1, h⟩; omega
       rw [<- h6]; exact h3
    have hor : ((j : Int) < (en : Int) /\ ok = false) ∨ ¬ (j : Int) < (en : Int) := by
     by_cases h1 : j < en
     . refine .inl ⟨by omega, ?_⟩
       cases ok with
       | false => rfl
       | true => exact absurd ⟨rfl, h1⟩ hgo
     . exact .inr (by omega)
    clear hgo HJ; obtain ⟨x0, x1, x2, x3, x4, x5, x6⟩ := aR HKr.out; obtain ⟨v0, v1, v2, v3, v4, v5, v6⟩ := aR HKwr.out; obtain ⟨f0, f1, f2, f3, f4, f5, f6⟩ := fr7 HKwr.out; rcases hor with ⟨hlt, rfl⟩ | hlt
    all_goals
     go_wp2_with fail; refine bodyPost_ret (xw Tryz.results54 rfl (dE HKwr.out _ _ _ _ _ _ _)) rfl ?_; have hBF := dD HBr.out (b := w.heap.size + 1 + 1) (by omega) (.slice pA pn pc) (.string pre) (.slice fJ fnj fcj) (.slice mJ mnj mcj) (.slice cA cn cc) (.slice hJ hnj hcj) (.bool sj.wr); exact ⟨sj, fJ, fnj, fcj, mJ, mnj, mcj, hJ, hnj, hcj, rfl, gz HRr.out HKwr.out (fun k hk => cK (b' := w.heap.size + 1 + 1) hk (.slice pA pn pc) (.string pre) (.slice fJ fnj fcj) (.slice mJ mnj mcj) (.slice cA cn cc) (.slice hJ hnj hcj) (.bool sj.wr)) (by simp), HDQ.out, hBF⟩
   case pos =>
    obtain ⟨rfl, hgo⟩ := hgo; have hJ1 : DirJ p (toL pre) (d1, d2) (toL q) o s6 sj j /\ ObM wr wr.heap.size o ⟨eA, en, ec, qA, qn, qc⟩ := by
     rcases HJ.out with ⟨h1, _⟩ | ⟨_, _, h3, h4⟩
     . cases h1
     . exact ⟨h3, h4⟩
    have HDJ := ah hJ1.1; have HOr := ah hJ1.2; have HLS : Hid (LeK (rdS (toL pre) s0 (d1, d2) (toL q)) sj) := HLE.out.trans hJ1.1.le; clear hJ1 HJ; obtain ⟨b, off, e, hAe, hbB, he, y0, y1, y2, y3⟩ := HOr.out.e.en hgo; simp only at hAe; subst hAe; have hlt : (j : Int) < (en : Int) := by omega
    have hmx : en <= 9223372036854775807 := by have h1 := HOr.out.ele; have h2 := HOr.out.emx; unfold maxLen at h2; simp only at h1 h2; omega
    have HEO := ah (jy (HOO.out rfl).1 e (List.mem_of_getElem? he)); have HE := ah he; have HEU : Hid (e.dg ∈ U) := HUC.out _ _ _ HDJ.out.g (List.mem_append_left _ (List.mem_map.2 ⟨e, List.mem_of_getElem? he, rfl⟩)); clear he; obtain ⟨nm, dir, ⟨g1, g2⟩⟩ := e; simp only at y0 y1 y2 y3; have hnm : nm.size <= 100 := by have := (oP HEO.out.nm).2; simp only at this; omega
    obtain ⟨We, hWe⟩ : ∃ We, wr.alloc (.cells #[.string nm, .bool dir, .int .u64 g1, .int .u64 g2] 111) = We := ⟨_, rfl⟩
    have hbe : Below wr.heap.size wr We := by rw [<- hWe]; exact (Below.refl _ wr).alloc ai _
    have HKe : Hid (Bk We wr.heap.size 111 #[.string nm, .bool dir, .int .u64 g1, .int .u64 g2]) := by rw [<- hWe]; exact Bk.new wr _ _
    have HBe : Hid (Below w.heap.size w We) := HBr.out.trans (hbe.mono HBr.out.size); have HKre := ah (HKr.out.below hbe HKr.out.lt); have HKwe := ah (HKwr.out.below hbe HKwr.out.lt); have HKoe := ah (HKor.out.below hbe HKor.out.lt); have HRe := ah (HRr.out.bel hbe); have HOe : Hid (ObM We We.heap.size o ⟨some ⟨b, off, none⟩, en, ec, qA, qn, qc⟩) := (HOr.out.below hbe ai).more hbe.size; have HPe : Hid (Sl We We.heap.size 3 pA pn (flat itC p)) := (HP.out.below HBe.out ai).more HBe.out.size; have HWe := ah hWe; have ze : wr.heap.size < We.heap.size := HKe.out.lt; obtain ⟨x0, x1, x2, x3, x4, x5, x6⟩ := aR HKre.out; obtain ⟨q0, q1, q2, q3⟩ := HKe.out.four; have hsz : ¬ (9223372036854775807 < q.size + nm.size) := by have := HQ.out; omega
    obtain ⟨p1, hp1⟩ : ∃ p1, q ++ nm = p1 := ⟨_, rfl⟩
    have hz1 : p1.size = q.size + nm.size := by rw [<- hp1]; exact ByteArray.size_append
    have HT1 : Hid (toL p1 = toL q ++ toL nm) := by rw [<- hp1]; exact iJ _ _
    rw [<- hWe] at x0 x1 x2 x3 x4 x5 x6 q0 q1 q2 q3; clear hWe hbe HOr HKr HKwr HKor HRr HBr; cases dir with
    | true =>
      have hsz2 : ¬ (9223372036854775807 < p1.size + 1) := by have := HQ.out; omega
      obtain ⟨p2, hp2⟩ : ∃ p2, p1 ++ ⟨#[47]⟩ = p2 := ⟨_, rfl⟩
      have hz2 : p2.size = p1.size + 1 := by rw [<- hp2]; exact ByteArray.size_append
      have HT2 : Hid (toL p2 = toL q ++ toL nm ++ [47]) := by
       have h1 : toL p2 = toL p1 ++ [47] := by rw [<- hp2]; exact iJ _ _
       show _ = _; rw [h1, HT1.out]
      have HG1 := ah (kD p2 pre We (by have := HPRE.out; unfold maxLen; omega)); have HG2 := ah (kD pre p2 We (by have := HQ.out; unfold maxLen; omega)); rw [iK] at HG1 HG2; go_wp2_with fail; rw [HWe.out]; refine HG1.out.mono ?_; rintro e w8 ⟨rfl, rfl⟩; rw [<- HWe.out]; have hway : (toL pre <+: toL p2) ∨ (¬ toL pre <+: toL p2 /\ toL p2 <+: toL pre) ∨ (¬ toL pre <+: toL p2 /\ ¬ toL p2 <+: toL pre) := by
       by_cases h1 : toL pre <+: toL p2
       . exact .inl h1
       . by_cases h2 : toL p2 <+: toL pre
         . exact .inr (.inl ⟨h1, h2⟩)
         . exact .inr (.inr ⟨h1, h2⟩)
      rcases hway with h1 | ⟨h1, h2⟩ | ⟨h1, h2⟩
      case inr.inr =>
       rw [decide_eq_false h1]; go_wp2_with fail; rw [HWe.out]; refine HG2.out.mono ?_; rintro e w8 ⟨rfl, rfl⟩; rw [decide_eq_false h2]; have HD1 := ah (HDJ.out.skip HE.out rfl (by rw [<- HT2.out]; exact fun h => h.elim h1 h2)); clear h1 h2; go_wp2_with fail; go_roundw
       case rel => exact ⟨j + 1, sj, _, _, _, _, _, _, _, _, _, by go_num, .inr ⟨by trivial, hgo, HD1.out, HOe.out⟩, HKre.out, HKwe.out, HKoe.out, HRe.out, HBe.out⟩
       case measure => simp [intOf]; omega
      case' inl =>
       have HTO : Hid (touch (toL pre) (toL q ++ toL nm ++ [47])) := by rw [<- HT2.out]; exact .inl h1
       rw [decide_eq_true h1]; clear h1; go_wp2_with fail
      case' inr.inl =>
       have HTO : Hid (touch (toL pre) (toL q ++ toL nm ++ [47])) := by rw [<- HT2.out]; exact .inr h2
       rw [decide_eq_false h1]; go_wp2_with fail; rw [HWe.out]; refine HG2.out.mono ?_; rintro e w8 ⟨rfl, rfl⟩; rw [<- HWe.out, decide_eq_true h2]; clear h1 h2; go_wp2_with fail
      all_goals
       have hms := Du (nm := toL nm) (U := U) HD.out HV5.out HLS.out HTO.out; have hmn := HM.out; have hmq := HQ.out; have HC := ah (IH.out p U pA pn pc pre fJ fnj fcj mJ mnj mcj cA cn cc hJ hnj hcj com sj (g1, g2) p2 We HPe.out HRe.out hpn HPO.out HEU.out HUL.out HEO.out.dg HPRE.out HUC.out (by rw [HT2.out]; omega) (by rw [HT2.out]; omega)); unfold qU at HC; simp only [rkV, az] at HC; rw [HT2.out] at HC; clear hms hmn hmq; rw [HWe.out]; refine HC.out.mono ?_; rintro e w9 ⟨s9, f9, fn9, fc9, m9, mn9, mc9, h9, hn9, hc9, rfl, hR9, hQ9, hb9⟩; have HB9 : Hid (Below w.heap.size w w9) := HBe.out.trans (hb9.mono HBe.out.size); have HK9 := ah (HKre.out.below hb9 HKre.out.lt); have HKw9 := ah (HKwe.out.below hb9 HKwe.out.lt); have HKo9 := ah (HKoe.out.below hb9 HKoe.out.lt); have HR9 := ah hR9; have HO9 : Hid (ObM w9 w9.heap.size o ⟨some ⟨b, off, none⟩, en, ec, qA, qn, qc⟩) := (HOe.out.below hb9 ai).more hb9.size; have HD1 := ah (HDJ.out.dir HE.out rfl HTO.out hQ9); clear hR9 hQ9 hb9 HC x0 x1 x2 x3 x4 x5 x6 q0 q1 q2 q3 y0 y1 y2 y3 HWe; obtain ⟨x0, x1, x2, x3, x4, x5, x6⟩ := aR HK9.out; obtain ⟨f0, f1, f2, f3, f4, f5, f6⟩ := fr7 HK9.out; go_wp2_with fail; obtain ⟨wF, hwF⟩ : ∃ W, (((((((w9.setCell ⟨w.heap.size, 0, none⟩ (.slice pA pn pc)).setCell ⟨w.heap.size, 1, none⟩ (.string pre)).setCell ⟨w.heap.size, 2, none⟩ (.slice f9 fn9 fc9)).setCell ⟨w.heap.size, 3, none⟩ (.slice m9 mn9 mc9)).setCell ⟨w.heap.size, 4, none⟩ (.slice cA cn cc)).setCell ⟨w.heap.size, 5, none⟩ (.slice h9 hn9 hc9)).setCell ⟨w.heap.size, 6, none⟩ (.bool s9.wr)) = W := ⟨_, rfl⟩
       have HBF : Hid (Below w.heap.size w wF) := by rw [<- hwF]; exact dD HB9.out ai (.slice pA pn pc) (.string pre) (.slice f9 fn9 fc9) (.slice m9 mn9 mc9) (.slice cA cn cc) (.slice h9 hn9 hc9) (.bool s9.wr)
       have HKF : Hid (Bk wF w.heap.size 70 #[.slice pA pn pc, .string pre, .slice f9 fn9 fc9, .slice m9 mn9 mc9, .slice cA cn cc, .slice h9 hn9 hc9, .bool s9.wr]) := by rw [<- hwF]; exact dE HK9.out _ _ _ _ _ _ _
       have HKwF : Hid (Bk wF (w.heap.size + 1 + 1) 70 zwC) := by rw [<- hwF]; exact dW HKw9.out (by omega) _ _ _ _ _ _ _
       have HKoF : Hid (Bk wF bo 75 #[.int .i64 o.kind, .string o.data, .slice (some ⟨b, off, none⟩) en ec, .int .u64 o.tree.1, .int .u64 o.tree.2, .slice qA qn qc, .string o.auth, .int .i64 o.time, .string o.msg]) := by rw [<- hwF]; exact dW HKo9.out (by omega) _ _ _ _ _ _ _
       have hzF : w9.heap.size <= wF.heap.size := by rw [<- hwF]; simp
       have HOF : Hid (ObM wF wF.heap.size o ⟨some ⟨b, off, none⟩, en, ec, qA, qn, qc⟩) := by
        have h1 := gU HO9.out HK9.out (fun k hk => cK (b' := w.heap.size) hk (.slice pA pn pc) (.string pre) (.slice f9 fn9 fc9) (.slice m9 mn9 mc9) (.slice cA cn cc) (.slice h9 hn9 hc9) (.bool s9.wr)); rw [hwF] at h1; exact h1.more hzF
       have HRF : Hid (Rk7 p U wF s9 f9 fn9 fc9 m9 mn9 mc9 cA cn cc h9 hn9 hc9 com) := by
        have h1 := gz HR9.out HK9.out (w' := wF) (fun k hk => by rw [<- hwF]; exact cK (b' := w.heap.size) hk (.slice pA pn pc) (.string pre) (.slice f9 fn9 fc9) (.slice m9 mn9 mc9) (.slice cA cn cc) (.slice h9 hn9 hc9) (.bool s9.wr)) hzF; exact h1
       rw [hwF]; go_roundw
       case rel => exact ⟨j + 1, s9, _, _, _, _, _, _, _, _, _, by go_num, .inr ⟨by trivial, hgo, HD1.out, HOF.out⟩, HKF.out, HKwF.out, HKoF.out, HRF.out, HBF.out⟩
       case measure => simp [intOf]; omega
    | false =>
      have HG1 := ah (kD p1 pre We (by have := HPRE.out; unfold maxLen; omega)); rw [iK] at HG1; go_wp2_with fail; rw [HWe.out]; refine HG1.out.mono ?_; rintro e w8 ⟨rfl, rfl⟩; by_cases h1 : toL pre <+: toL p1
      case neg =>
       rw [decide_eq_false h1]; have HD1 := ah (HDJ.out.pass HE.out rfl (by rw [<- HT1.out]; exact h1)); clear h1; go_wp2_with fail; go_roundw
       case rel => exact ⟨j + 1, sj, _, _, _, _, _, _, _, _, _, by go_num, .inr ⟨by trivial, hgo, HD1.out, HOe.out⟩, HKre.out, HKwe.out, HKoe.out, HRe.out, HBe.out⟩
       case measure => simp [intOf]; omega
      case pos =>
       rw [<- HWe.out, decide_eq_true h1]; have HD1 := ah (HDJ.out.blob HE.out rfl (by rw [<- HT1.out]; exact h1)); clear h1; have HC := ah (nX p U pA pn pc pre fJ fnj fcj mJ mnj mcj cA cn cc hJ hnj hcj com sj (g1, g2) 1 We HPe.out HRe.out hpn HPO.out HEU.out HUL.out HEO.out.dg); unfold G7E at HC; simp only [rkV, az] at HC; obtain ⟨s9, hs9⟩ : ∃ s, (aW p sj (g1, g2) 1).1 = s := ⟨_, rfl⟩
       simp only [hs9] at HC HD1; clear hs9; go_wp2_with fail; rw [HWe.out]; refine HC.out.mono ?_; rintro e w9 ⟨o9, sl9, f9, fn9, fc9, m9, mn9, mc9, ok9, rfl, hR9, _, hb9, _, _⟩; have HB9 : Hid (Below w.heap.size w w9) := HBe.out.trans (hb9.mono HBe.out.size); have HK9 := ah (HKre.out.below hb9 HKre.out.lt); have HKw9 := ah (HKwe.out.below hb9 HKwe.out.lt); have HKo9 := ah (HKoe.out.below hb9 HKoe.out.lt); have HR9 := ah hR9; have HO9 : Hid (ObM w9 w9.heap.size o ⟨some ⟨b, off, none⟩, en, ec, qA, qn, qc⟩) := (HOe.out.below hb9 ai).more hb9.size; clear hR9 hb9 HC x0 x1 x2 x3 x4 x5 x6 q0 q1 q2 q3 y0 y1 y2 y3 HWe; obtain ⟨x0, x1, x2, x3, x4, x5, x6⟩ := aR HK9.out; obtain ⟨f0, f1, f2, f3, f4, f5, f6⟩ := fr7 HK9.out; go_wp2_with fail; obtain ⟨wF, hwF⟩ : ∃ W, (((((((w9.setCell ⟨w.heap.size, 0, none⟩ (.slice pA pn pc)).setCell ⟨w.heap.size, 1, none⟩ (.string pre)).setCell ⟨w.heap.size, 2, none⟩ (.slice f9 fn9 fc9)).setCell ⟨w.heap.size, 3, none⟩ (.slice m9 mn9 mc9)).setCell ⟨w.heap.size, 4, none⟩ (.slice cA cn cc)).setCell ⟨w.heap.size, 5, none⟩ (.slice hJ hnj hcj)).setCell ⟨w.heap.size, 6, none⟩ (.bool s9.wr)) = W := ⟨_, rfl⟩
       have HBF : Hid (Below w.heap.size w wF) := by rw [<- hwF]; exact dD HB9.out ai (.slice pA pn pc) (.string pre) (.slice f9 fn9 fc9) (.slice m9 mn9 mc9) (.slice cA cn cc) (.slice hJ hnj hcj) (.bool s9.wr)
       have HKF : Hid (Bk wF w.heap.size 70 #[.slice pA pn pc, .string pre, .slice f9 fn9 fc9, .slice m9 mn9 mc9, .slice cA cn cc, .slice hJ hnj hcj, .bool s9.wr]) := by rw [<- hwF]; exact dE HK9.out _ _ _ _ _ _ _
       have HKwF : Hid (Bk wF (w.heap.size + 1 + 1) 70 zwC) := by rw [<- hwF]; exact dW HKw9.out (by omega) _ _ _ _ _ _ _
       have HKoF : Hid (Bk wF bo 75 #[.int .i64 o.kind, .string o.data, .slice (some ⟨b, off, none⟩) en ec, .int .u64 o.tree.1, .int .u64 o.tree.2, .slice qA qn qc, .string o.auth, .int .i64 o.time, .string o.msg]) := by rw [<- hwF]; exact dW HKo9.out (by omega) _ _ _ _ _ _ _
       have hzF : w9.heap.size <= wF.heap.size := by rw [<- hwF]; simp
       have HOF : Hid (ObM wF wF.heap.size o ⟨some ⟨b, off, none⟩, en, ec, qA, qn, qc⟩) := by
        have h1 := gU HO9.out HK9.out (fun k hk => cK (b' := w.heap.size) hk (.slice pA pn pc) (.string pre) (.slice f9 fn9 fc9) (.slice m9 mn9 mc9) (.slice cA cn cc) (.slice hJ hnj hcj) (.bool s9.wr)); rw [hwF] at h1; exact h1.more hzF
       have HRF : Hid (Rk7 p U wF s9 f9 fn9 fc9 m9 mn9 mc9 cA cn cc hJ hnj hcj com) := by
        have h1 := gz HR9.out HK9.out (w' := wF) (fun k hk => by rw [<- hwF]; exact cK (b' := w.heap.size) hk (.slice pA pn pc) (.string pre) (.slice f9 fn9 fc9) (.slice m9 mn9 mc9) (.slice cA cn cc) (.slice hJ hnj hcj) (.bool s9.wr)) hzF; exact h1
       rw [hwF]; go_roundw
       case rel => exact ⟨j + 1, s9, _, _, _, _, _, _, _, _, _, by go_num, .inr ⟨by trivial, hgo, HD1.out, HOF.out⟩, HKF.out, HKwF.out, HKoF.out, HRF.out, HBF.out⟩
       case measure => simp [intOf]; omega
theorem vv : ∀ n, qV n
 | 0 => fun p U pA pn pc pre fA fn fc mA mn mc cA cn cc hA hn hc com s d q w _ _ _ _ _ _ _ _ _ h _ => by omega
 | n + 1 => Bl n (vv n)
end
structure ComQ (p : List Itm) (hs : List Dig) (stop : Dig -> Prop) (dep : Int) (pre : Bytes) (seen : Dig -> Bool) (com : List Dig) (s : RkS) : Prop where
 ne : ∀ d, seen d = true -> s.ne d = true /\ ∀ o, ay p d = some o -> o.kind ≠ 3 -> s.wr = true
 com : ∀ d, d ∈ com ↔ seen d = true /\ ∃ o, ay p d = some o /\ o.kind = 3
 snd : SndK p hs stop dep pre s
 wh : ∀ d, s.wh d = false
section
variable {p : List Itm} {hs : List Dig} {stop : Dig -> Prop} {dep : Int} {pre : Bytes} {seen : Dig -> Bool} {com com' : List Dig} {s s' sj : RkS} {d : Dig} {o : Ob}
theorem ComQ.start (p : List Itm) (hs : List Dig) (stop : Dig -> Prop) (dep : Int) (pre : Bytes) : ComQ p hs stop dep pre (fun _ => false) [] ⟨fun _ => false, fun _ => false, false⟩ where
 ne d h := by cases h
 com d := ⟨fun h => (by cases h), fun h => (by cases h.1)⟩
 snd := ⟨fun d h => (by cases h), fun h => (by cases h)⟩
 wh d := rfl
theorem ComQ.up (h : ComQ p hs stop dep pre seen com s) {r : Option Ob} (hg : aW p s d 3 = (s', r)) (x : Dig) (hx : aK seen d x = true) : s'.ne x = true /\ ∀ o, ay p x = some o -> o.kind ≠ 3 -> s'.wr = true := by
 have hl := mf (p := p) s d 3; have hn := lT (p := p) s d 3; have hw := fun o => lM (p := p) s d 3 (o := o); rw [hg] at hl hn hw; rcases setB_true.1 hx with rfl | hx
 . exact ⟨hn, fun o g k => hw o g k⟩
 . exact ⟨hl.ne _ (h.ne x hx).1, fun o g k => hl.wr ((h.ne x hx).2 o g k)⟩
theorem ComQ.none (h : ComQ p hs stop dep pre seen com s) (hn : NC p hs stop dep d) (hg : aW p s d 3 = (s', none)) : ComQ p hs stop dep pre (aK seen d) com s' := by
 refine ⟨h.up hg, fun x => ?_, ?_, fun x => ?_⟩
 . rw [h.com, setB_true]
   constructor
   . rintro ⟨h1, h2⟩; exact ⟨.inr h1, h2⟩
   . rintro ⟨rfl | h1, o, h2, h3⟩
     . exact absurd h3 (kQ hg o h2).1
     . exact ⟨h1, o, h2, h3⟩
 . have := h.snd.get (p := p) (.com hn) (d := d) (k := 3); rw [hg] at this; exact this
 . have := jM (p := p) s d 3; rw [hg] at this; rw [this]; exact h.wh x
theorem ComQ.some (h : ComQ p hs stop dep pre seen com s) (hn : NC p hs stop dep d) (hg : aW p s d 3 = (s', some o)) (hc : ∀ x, x ∈ com' ↔ x = d ∨ x ∈ com) : ComQ p hs stop dep pre (aK seen d) com' s' := by
 refine ⟨h.up hg, fun x => ?_, ?_, fun x => ?_⟩
 . rw [hc, h.com, setB_true]
   constructor
   . rintro (rfl | ⟨h1, h2⟩)
     . exact ⟨.inl rfl, o, fG hg⟩
     . exact ⟨.inr h1, h2⟩
   . rintro ⟨rfl | h1, h2⟩
     . exact .inl rfl
     . exact .inr ⟨h1, h2⟩
 . have := h.snd.get (p := p) (.com hn) (d := d) (k := 3); rw [hg] at this; exact this
 . have := jM (p := p) s d 3; rw [hg] at this; rw [this]; exact h.wh x
theorem Dc {st : Bool} {next : List Dig} (hg : aW p s d 3 = (s', Option.none)) : dm (ay p d) st next = next := by
 unfold dm; split
 . rename_i o ho
   rw [if_neg fun h => (kQ hg o ho).1 h.1]
 . rfl
theorem Ce {next : List Dig} (hg : aW p s d 3 = (s', Option.some o)) : dm (ay p d) false next = next ++ o.pars := by
 unfold dm; rw [(fG hg).1]; simp only; rw [if_pos (by simp [(fG hg).2])]
structure VisQ (p : List Itm) (hs : List Dig) (stop : Dig -> Prop) (dep : Int) (pre : Bytes) (com : List Dig) (sc sj : RkS) (j : Nat) : Prop where
 le : LeK sc sj
 vs : ∀ i c o, i < j -> com[i]? = some c -> ay p c = some o -> VisA p pre sj o.tree []
 wh : ∀ x, sj.wh x = true -> WhC p sj x
 snd : SndK p hs stop dep pre sj
theorem VisQ.start (h : ComQ p hs stop dep pre seen com s) : VisQ p hs stop dep pre com s s 0 where
 le := LeK.refl _
 vs := fun i c o hi => by omega
 wh := fun x hx => by rw [h.wh x] at hx; cases hx
 snd := h.snd
theorem VisQ.step {j : Nat} (h : VisQ p hs stop dep pre com s sj j) (hc : com[j]? = some d) (g : ay p d = some o) (hn : NC p hs stop dep d) (hk : o.kind = 3) (Q : ji p pre sj s' o.tree []) : VisQ p hs stop dep pre com s s' (j + 1) where
 le := h.le.trans Q.le
 vs := fun i c o' hi hc' g' => by
  by_cases e : i = j
  . subst e
    rw [hc] at hc'; cases hc'; rw [g] at g'; cases g'; exact Q.vis
  . exact (h.vs i c o' (by omega) hc' g').mono Q.le
 wh := fun x hx => (Q.wh x hx).elim (fun h1 => (h.wh x h1).mono Q.le) id
 snd := Q.snd hs stop dep h.snd (.root hn g hk)
theorem VisQ.fin (h : VisQ p hs stop dep pre com s s' com.length) (hc : ComQ p hs stop dep pre seen com s) (hn : ∀ d, seen d = true ↔ NC p hs stop dep d) :
  (∀ d, s'.ne d = true ↔ Need p hs stop dep pre d) /\ (s'.wr = true ↔ bZ p hs stop dep pre) := by
 refine DN h.snd (fun c hcn => ?_) h.wh; have h1 := (hn c).2 hcn; obtain ⟨h2, h3⟩ := hc.ne c h1; refine ⟨h.le.ne _ h2, fun o g => ⟨fun k => h.le.wr (h3 o g k), fun k => ?_⟩⟩; obtain ⟨i, hi⟩ := List.mem_iff_getElem?.1 ((hc.com c).2 ⟨h1, o, g, k⟩); have hlt : i < com.length := by
  rcases Nat.lt_or_ge i com.length with h2 | h2
  . exact h2
  . rw [List.getElem?_eq_none h2] at hi; cases hi
 exact h.vs i c o hlt hi g
/-! ### the edge -/
structure EdQ (p : List Itm) (seen : Dig -> Bool) (com : List Dig) (j k : Nat) (edge : List Dig) : Prop where
 e : ∀ d, d ∈ edge ↔ ∃ i o m x, com[i]? = some d /\ ay p d = some o /\ o.pars[m]? = some x /\ seen x = false /\ (i < j ∨ (i = j /\ m < k))
theorem EdQ.start (p : List Itm) (seen : Dig -> Bool) (com : List Dig) : EdQ p seen com 0 0 [] := ⟨fun d => ⟨fun h => (by cases h), fun ⟨i, _, m, _, _, _, _, _, h⟩ => by omega⟩⟩
theorem EdQ.next {j : Nat} {edge : List Dig} (h : EdQ p seen com j o.pars.length edge) (hc : com[j]? = some d) (g : ay p d = some o) : EdQ p seen com (j + 1) 0 edge := by
 refine ⟨fun x => (h.e x).trans ⟨?_, ?_⟩⟩
 . rintro ⟨i, o', m, y, h1, h2, h3, h4, h5⟩
   exact ⟨i, o', m, y, h1, h2, h3, h4, .inl (by omega)⟩
 . rintro ⟨i, o', m, y, h1, h2, h3, h4, h5⟩
   refine ⟨i, o', m, y, h1, h2, h3, h4, ?_⟩; by_cases e : i = j
   . subst e
     rw [hc] at h1; cases h1; rw [g] at h2; cases h2; refine .inr ⟨rfl, ?_⟩; rcases Nat.lt_or_ge m o.pars.length with h6 | h6
     . exact h6
     . rw [List.getElem?_eq_none h6] at h3; cases h3
   . exact .inl (by omega)
theorem EdQ.pass {j k : Nat} {edge : List Dig} {x : Dig} (h : EdQ p seen com j k edge) (hc : com[j]? = some d) (g : ay p d = some o) (hx : o.pars[k]? = some x) (hs' : seen x = true) : EdQ p seen com j (k + 1) edge := by
 refine ⟨fun y => (h.e y).trans ⟨?_, ?_⟩⟩
 . rintro ⟨i, o', m, y, h1, h2, h3, h4, h5⟩
   exact ⟨i, o', m, y, h1, h2, h3, h4, by omega⟩
 . rintro ⟨i, o', m, y, h1, h2, h3, h4, h5⟩
   refine ⟨i, o', m, y, h1, h2, h3, h4, ?_⟩; rcases h5 with h5 | ⟨rfl, h5⟩
   . exact .inl h5
   . by_cases e : m = k
     . subst e
       rw [hc] at h1; cases h1; rw [g] at h2; cases h2; rw [hx] at h3; cases h3; rw [hs'] at h4; cases h4
     . exact .inr ⟨rfl, by omega⟩
theorem EdQ.add {j k : Nat} {edge edge' : List Dig} {x : Dig} (h : EdQ p seen com j k edge) (hc : com[j]? = some d) (g : ay p d = some o) (hx : o.pars[k]? = some x) (hs' : seen x = false) (he : ∀ y, y ∈ edge' ↔ y = d ∨ y ∈ edge) :
  EdQ p seen com j (k + 1) edge' := by
 refine ⟨fun y => (he y).trans ⟨?_, ?_⟩⟩
 . rintro (rfl | h1)
   . exact ⟨j, o, k, x, hc, g, hx, hs', .inr ⟨rfl, by omega⟩⟩
   . obtain ⟨i, o', m, y, h1, h2, h3, h4, h5⟩ := (h.e y).1 h1
     exact ⟨i, o', m, y, h1, h2, h3, h4, by omega⟩
 . rintro ⟨i, o', m, z, h1, h2, h3, h4, h5⟩
   rcases h5 with h5 | ⟨rfl, h5⟩
   . exact .inr ((h.e y).2 ⟨i, o', m, z, h1, h2, h3, h4, .inl h5⟩)
   . by_cases e : m = k
     . subst e
       rw [hc] at h1; cases h1; exact .inl rfl
     . exact .inr ((h.e y).2 ⟨i, o', m, z, h1, h2, h3, h4, .inr ⟨rfl, by omega⟩⟩)
theorem EdQ.fin {edge : List Dig} (h : EdQ p seen com com.length 0 edge) (hc : ComQ p hs stop dep pre seen com s) (hn : ∀ d, seen d = true ↔ NC p hs stop dep d) (d : Dig) : d ∈ edge ↔ dZ p hs stop dep d := by
 rw [h.e]; constructor
 . rintro ⟨i, o, m, x, h1, h2, h3, h4, _⟩
   obtain ⟨h5, o', h6, h7⟩ := (hc.com d).1 (List.mem_of_getElem? h1); rw [h2] at h6; cases h6; exact ⟨(hn d).1 h5, o, x, h2, h7, List.mem_of_getElem? h3, fun h8 => by rw [(hn x).2 h8] at h4; cases h4⟩
 . rintro ⟨h1, o, x, h2, h3, h4, h5⟩
   obtain ⟨i, hi⟩ := List.mem_iff_getElem?.1 ((hc.com d).2 ⟨(hn d).2 h1, o, h2, h3⟩); obtain ⟨m, hm⟩ := List.mem_iff_getElem?.1 h4; refine ⟨i, o, m, x, hi, h2, hm, ?_, .inl ?_⟩
   . cases h6 : seen x with
     | false => rfl
     | true => exact absurd ((hn x).1 h6) h5
   . rcases Nat.lt_or_ge i com.length with h6 | h6
     . exact h6
     . rw [List.getElem?_eq_none h6] at hi; cases hi
end
section
open Go.Maps
def R9 (p : List Itm) (U : List Dig) (pA : OA) (pn pc : Nat) (pre : ByteArray) (fJ : OA) (fnj : Nat) (mJ : OA) (mnj : Nat) (cJ : OA) (cnj ccj : Nat) (hA : OA) (hn hc : Nat) (com : List Dig) (s4 : RkS) (r : Option Ob) (w3 : World) (p14 p15 p16 : Value) (V : World) : Prop :=
 ∃ (o : Ob) (sl : Osl) (fA : OA) (fn fc : Nat) (mA : OA) (mn mc : Nat) (ok : Bool) (bo bw : Nat), p14 = .pointer (some ⟨bo, 0, none⟩) /\ p15 = .pointer (some ⟨bw, 0, none⟩) /\ p16 = .bool ok ∧
  Bk V bo 75 #[.int .i64 o.kind, .string o.data, .slice sl.eA sl.en sl.ec, .int .u64 o.tree.1, .int .u64 o.tree.2, .slice sl.pA sl.pn sl.pc, .string o.auth, .int .i64 o.time, .string o.msg] ∧
  Bk V bw 70 #[.slice pA pn pc, .string pre, .slice fA fn fc, .slice mA mn mc, .slice cJ cnj ccj, .slice hA hn hc, .bool s4.wr] /\ Rk7 p U V s4 fA fn fc mA mn mc cJ cnj ccj hA hn hc com ∧
  ((ok = false /\ r = none) ∨ (ok = true /\ r = some o /\ OkO o /\ ObM V V.heap.size o sl)) /\ OnF w3 fJ fnj fA fn /\ OnF w3 mJ mnj mA mn /\ Below w3.heap.size w3 V /\ w3.heap.size <= bo /\ w3.heap.size <= bw
theorem OnF.from {w w' : World} {A A' : OA} {n n' : Nat} (h : OnF w' A n A' n') (hs : w.heap.size <= w'.heap.size) : OnF w A n A' n' := by
 rcases h with h | h
 . exact .inl h
 . exact .inr fun a ha => Nat.le_trans hs (h a ha)
theorem qi {w V : World} {size n bo bw : Nat} {A : OA} {xs : List Value} (h : Sl w w.heap.size size A n xs) (hn : ∀ a, 0 < n -> A = some a -> a.block ≠ bo /\ a.block ≠ bw) (hV : ∀ k, k < w.heap.size -> k ≠ bo -> k ≠ bw -> V.heap[k]? = w.heap[k]?) (hs : w.heap.size <= V.heap.size) : Sl V V.heap.size size A n xs := by
 refine ⟨h.1, fun h0 => ?_⟩; obtain ⟨b', off, rfl, hb', hc⟩ := h.2 h0; obtain ⟨h1, h2⟩ := hn _ h0 rfl; exact ⟨b', off, rfl, by omega, fun j u hu => (World.cell?_of_block (hV b' hb' h1 h2)).trans (hc j u hu)⟩
theorem xI (i : Nat) (x : Int) : zwC[i]? ≠ some (.int .u64 x) := by
 match i with
 | 0 | 1 | 2 | 3 | 4 | 5 | 6 => simp [zwC]
 | i + 7 => simp [zwC]
theorem Fw (i : Nat) (x : ByteArray) (y : Bool) : zwC[i]? = some (.string x) -> zwC[i + 1]? ≠ some (.bool y) := by
 match i with
 | 0 | 1 | 2 | 3 | 4 | 5 | 6 => simp [zwC]
 | i + 7 => simp [zwC]
section
variable {p : List Itm} {U : List Dig} {pA : OA} {pn pc : Nat} {pre : ByteArray} {fJ : OA} {fnj fcj : Nat} {mJ : OA} {mnj mcj : Nat} {cJ : OA} {cnj ccj : Nat} {hA : OA} {hn hc : Nat} {com : List Dig} {sj s4 : RkS} {r : Option Ob}
theorem iQ {w3 w4 V : World} {wcs : Nat} {o : Ob} {osl : Osl} {f4 : OA} {fn4 fc4 : Nat} {m4 : OA} {mn4 mc4 : Nat} {ok : Bool} {bo bw : Nat} (hR3 : Rk7 p U w3 sj fJ fnj fcj mJ mnj mcj cJ cnj ccj hA hn hc com)
  (hR4 : Rk7 p U w4 s4 f4 fn4 fc4 m4 mn4 mc4 cJ cnj ccj hA hn hc com) (hok : (ok = false /\ r = none) ∨ (ok = true /\ r = some o /\ OkO o /\ ObM w4 w4.heap.size o osl))
  (h3c : w3.heap.size <= wcs) (hc4 : wcs <= w4.heap.size) (of : (f4 = fJ /\ fn4 = fnj) ∨ ∀ a, f4 = some a -> wcs <= a.block) (om : (m4 = mJ /\ mn4 = mnj) ∨ ∀ a, m4 = some a -> wcs <= a.block)
  (hV : ∀ k, k < w4.heap.size -> k ≠ bo -> k ≠ bw -> V.heap[k]? = w4.heap[k]?) (hs : w4.heap.size <= V.heap.size) (hb : Below w3.heap.size w3 V)
  (hbo : w4.heap.size <= bo ∨ (w3.heap.size <= bo /\ bo < wcs /\ Bk w4 bo 75 zrC)) (hbw : w4.heap.size <= bw ∨ (w3.heap.size <= bw /\ Bk w4 bw 70 zwC))
  (hko : Bk V bo 75 #[.int .i64 o.kind, .string o.data, .slice osl.eA osl.en osl.ec, .int .u64 o.tree.1, .int .u64 o.tree.2, .slice osl.pA osl.pn osl.pc, .string o.auth, .int .i64 o.time, .string o.msg])
  (hkw : Bk V bw 70 #[.slice pA pn pc, .string pre, .slice f4 fn4 fc4, .slice m4 mn4 mc4, .slice cJ cnj ccj, .slice hA hn hc, .bool s4.wr]) :
  R9 p U pA pn pc pre fJ fnj mJ mnj cJ cnj ccj hA hn hc com s4 r w3 (.pointer (some ⟨bo, 0, none⟩)) (.pointer (some ⟨bw, 0, none⟩)) (.bool ok) V := by
 -- a list's block is no box
 have apw : ∀ {A : OA} {n c : Nat} {l : List Dig}, Lst7 U w4 A n c l -> ∀ a, 0 < n -> A = some a -> a.block ≠ bw := fun {A n c l} L a h0 ha => by
  obtain ⟨b', off, d, e, hlt, _, h1, _⟩ := L.s.dg h0; rw [ha] at e; cases e; rcases hbw with h | ⟨_, h⟩
  . simp only; omega
  . rintro rfl
    rw [h.cell] at h1; exact xI _ _ h1
 have apo : ∀ {A A' : OA} {n n' c c' : Nat} {l l' : List Dig}, Lst7 U w3 A n c l -> Lst7 U w4 A' n' c' l' -> ((A' = A /\ n' = n) ∨ ∀ a, A' = some a -> wcs <= a.block) -> ∀ a, 0 < n' -> A' = some a -> a.block ≠ bo := fun {A A' n n' c c' l l'} L L' ho a h0 ha => by
  obtain ⟨b', off, d, e, hlt, _⟩ := L'.s.dg h0; rw [ha] at e; cases e; simp only; rcases hbo with h | ⟨h1, h2, _⟩
  . omega
  . rcases ho with ⟨e1, e2⟩ | ho
    . obtain ⟨b2, off2, d2, e, hlt2, _⟩ := L.s.dg (by rw [<- e2]; exact h0)
      rw [<- e1, ha] at e; cases e; omega
    . have := ho _ ha
      simp only at this; omega
 obtain ⟨f, m, h, L1, L2, L3, L4, _⟩ := hR3; obtain ⟨f', m', h', K1, K2, K3, K4, hne, hf, hm, hh⟩ := hR4; have lst : ∀ {A : OA} {n c : Nat} {l : List Dig}, Lst7 U w4 A n c l -> (∀ a, 0 < n -> A = some a -> a.block ≠ bo) -> Lst7 U V A n c l := fun {A n c l} L ho => ⟨qi L.s (fun a h0 ha => ⟨ho a h0 ha, apw L a h0 ha⟩) hV hs, L.le, L.mx, L.asc, L.u⟩
 refine ⟨o, osl, f4, fn4, fc4, m4, mn4, mc4, ok, bo, bw, rfl, rfl, rfl, hko, hkw, ⟨f', m', h', lst K1 (apo L1 K1 of), lst K2 (apo L2 K2 om), lst K3 (apo L3 K3 (.inl ⟨rfl, rfl⟩)), lst K4 (apo L4 K4 (.inl ⟨rfl, rfl⟩)), hne, hf, hm, hh⟩, ?_, ?_, ?_, hb, ?_, ?_⟩
 . rcases hok with h1 | ⟨h1, h2, h3, h4⟩
   . exact .inl h1
   . refine .inr ⟨h1, h2, h3, qi h4.e ?_ hV hs, qi h4.p ?_ hV hs, h4.ele, h4.emx, h4.ple, h4.pmx⟩
     . intro a h0 ha
       obtain ⟨b', off, e, rfl', hlt, _, g0, g1, _⟩ := h4.e.en h0; rw [ha] at rfl'; cases rfl'; constructor
       . rcases hbo with h | ⟨_, _, h⟩
         . simp only; omega
         . rintro rfl
           rw [h.cell] at g1; exact vL _ _ g1
       . rcases hbw with h | ⟨_, h⟩
         . simp only; omega
         . rintro rfl
           rw [h.cell] at g0 g1; exact Fw _ _ _ g0 g1
     . intro a h0 ha
       obtain ⟨b', off, d, rfl', hlt, hd, g0, g1⟩ := h4.p.dg h0; rw [ha] at rfl'; cases rfl'; constructor
       . rcases hbo with h | ⟨_, _, h⟩
         . simp only; omega
         . rintro rfl
           rw [h.cell] at g0 g1; have := vT _ _ _ g0 g1; exact vO h3 d (List.mem_of_getElem? hd) (by obtain ⟨x, y⟩ := d; obtain ⟨e1, e2⟩ := this; simp only at e1 e2; rw [e1, e2]; rfl)
       . rcases hbw with h | ⟨_, h⟩
         . simp only; omega
         . rintro rfl
           rw [h.cell] at g0; exact xI _ _ g0
 . rcases of with h | h
   . exact .inl h
   . exact .inr fun a ha => Nat.le_trans h3c (h a ha)
 . rcases om with h | h
   . exact .inl h
   . exact .inr fun a ha => Nat.le_trans h3c (h a ha)
 . rcases hbo with h | ⟨h, _⟩ <;> omega
 . rcases hbw with h | ⟨h, _⟩ <;> omega
structure jf (p : List Itm) (U : List Dig) (pA : OA) (pn pc : Nat) (pre : ByteArray) (fJ : OA) (fnj fcj : Nat) (mJ : OA) (mnj mcj : Nat) (cJ : OA) (cnj ccj : Nat) (hA : OA) (hn hc : Nat) (com : List Dig) (sj s4 : RkS) (r : Option Ob) (w3 w4 : World) (wcs : Nat) (o : Ob) (osl : Osl) (f4 : OA) (fn4 fc4 : Nat) (m4 : OA) (mn4 mc4 : Nat) (ok : Bool) : Prop where
 hR3 : Rk7 p U w3 sj fJ fnj fcj mJ mnj mcj cJ cnj ccj hA hn hc com
 hR4 : Rk7 p U w4 s4 f4 fn4 fc4 m4 mn4 mc4 cJ cnj ccj hA hn hc com
 hok : (ok = false /\ r = none) ∨ (ok = true /\ r = some o /\ OkO o /\ ObM w4 w4.heap.size o osl)
 h3c : w3.heap.size <= wcs
 hc4 : wcs <= w4.heap.size
 of : (f4 = fJ /\ fn4 = fnj) ∨ ∀ a, f4 = some a -> wcs <= a.block
 om : (m4 = mJ /\ mn4 = mnj) ∨ ∀ a, m4 = some a -> wcs <= a.block
 hb : Below w3.heap.size w3 w4
section
variable {w3 w4 : World} {wcs : Nat} {o : Ob} {osl : Osl} {f4 : OA} {fn4 fc4 : Nat} {m4 : OA} {mn4 mc4 : Nat} {ok : Bool} (h : jf p U pA pn pc pre fJ fnj fcj mJ mnj mcj cJ cnj ccj hA hn hc com sj s4 r w3 w4 wcs o osl f4 fn4 fc4 m4 mn4 mc4 ok)
include h
theorem FX  :
  R9 p U pA pn pc pre fJ fnj mJ mnj cJ cnj ccj hA hn hc com s4 r w3 (.pointer (some ⟨w4.heap.size, 0, none⟩)) (.pointer (some ⟨w4.heap.size + 1, 0, none⟩)) (.bool ok)
   ((w4.alloc (.cells #[.int .i64 o.kind, .string o.data, .slice osl.eA osl.en osl.ec, .int .u64 o.tree.1, .int .u64 o.tree.2, .slice osl.pA osl.pn osl.pc, .string o.auth, .int .i64 o.time, .string o.msg] 75)).alloc (.cells #[.slice pA pn pc, .string pre, .slice f4 fn4 fc4, .slice m4 mn4 mc4, .slice cJ cnj ccj, .slice hA hn hc, .bool s4.wr] 70)) := by
 have hz := h.h3c; have hz2 := h.hc4; have hnw := Bk.new (w4.alloc (.cells #[.int .i64 o.kind, .string o.data, .slice osl.eA osl.en osl.ec, .int .u64 o.tree.1, .int .u64 o.tree.2, .slice osl.pA osl.pn osl.pc, .string o.auth, .int .i64 o.time, .string o.msg] 75)) 70 #[.slice pA pn pc, .string pre, .slice f4 fn4 fc4, .slice m4 mn4 mc4, .slice cJ cnj ccj, .slice hA hn hc, .bool s4.wr]; rw [World.size_alloc] at hnw; exact iQ h.hR3 h.hR4 h.hok h.h3c h.hc4 h.of h.om (fun k h1 _ _ => (Below.heap_alloc _ _ k (by rw [World.size_alloc]; omega)).trans (Below.heap_alloc _ _ k h1)) (by simp; omega) ((h.hb.alloc (by omega) _).alloc (by simp; omega) _) (.inl ai) (.inl (by omega)) ((Bk.new w4 _ _).alloc _) hnw
theorem FU  :
  R9 p U pA pn pc pre fJ fnj mJ mnj cJ cnj ccj hA hn hc com s4 r w3 (.pointer (some ⟨w4.heap.size + 1, 0, none⟩)) (.pointer (some ⟨w4.heap.size, 0, none⟩)) (.bool ok)
   ((w4.alloc (.cells #[.slice pA pn pc, .string pre, .slice f4 fn4 fc4, .slice m4 mn4 mc4, .slice cJ cnj ccj, .slice hA hn hc, .bool s4.wr] 70)).alloc (.cells #[.int .i64 o.kind, .string o.data, .slice osl.eA osl.en osl.ec, .int .u64 o.tree.1, .int .u64 o.tree.2, .slice osl.pA osl.pn osl.pc, .string o.auth, .int .i64 o.time, .string o.msg] 75)) := by
 have hz := h.h3c; have hz2 := h.hc4; have hnw := Bk.new (w4.alloc (.cells #[.slice pA pn pc, .string pre, .slice f4 fn4 fc4, .slice m4 mn4 mc4, .slice cJ cnj ccj, .slice hA hn hc, .bool s4.wr] 70)) 75 #[.int .i64 o.kind, .string o.data, .slice osl.eA osl.en osl.ec, .int .u64 o.tree.1, .int .u64 o.tree.2, .slice osl.pA osl.pn osl.pc, .string o.auth, .int .i64 o.time, .string o.msg]; rw [World.size_alloc] at hnw; exact iQ h.hR3 h.hR4 h.hok h.h3c h.hc4 h.of h.om (fun k h1 _ _ => (Below.heap_alloc _ _ k (by rw [World.size_alloc]; omega)).trans (Below.heap_alloc _ _ k h1)) (by simp; omega) ((h.hb.alloc (by omega) _).alloc (by simp; omega) _) (.inl (by omega)) (.inl ai) hnw ((Bk.new w4 _ _).alloc _)
theorem Gd (hw : wcs = w3.heap.size + 1) (ko : Bk w4 w3.heap.size 75 #[.int .i64 0, .string ⟨#[]⟩, .slice none 0 0, .int .u64 0, .int .u64 0, .slice none 0 0, .string ⟨#[]⟩, .int .i64 0, .string ⟨#[]⟩]) :
  R9 p U pA pn pc pre fJ fnj mJ mnj cJ cnj ccj hA hn hc com s4 r w3 (.pointer (some ⟨w3.heap.size, 0, none⟩)) (.pointer (some ⟨w4.heap.size, 0, none⟩)) (.bool ok)
   ((((((((((w4.setCell ⟨w3.heap.size, 0, none⟩ (.int .i64 o.kind)).setCell ⟨w3.heap.size, 1, none⟩ (.string o.data)).setCell ⟨w3.heap.size, 2, none⟩ (.slice osl.eA osl.en osl.ec)).setCell ⟨w3.heap.size, 3, none⟩ (.int .u64 o.tree.1)).setCell ⟨w3.heap.size, 4, none⟩ (.int .u64 o.tree.2)).setCell ⟨w3.heap.size, 5, none⟩ (.slice osl.pA osl.pn osl.pc)).setCell ⟨w3.heap.size, 6, none⟩ (.string o.auth)).setCell ⟨w3.heap.size, 7, none⟩ (.int .i64 o.time)).setCell ⟨w3.heap.size, 8, none⟩ (.string o.msg)).alloc (.cells #[.slice pA pn pc, .string pre, .slice f4 fn4 fc4, .slice m4 mn4 mc4, .slice cJ cnj ccj, .slice hA hn hc, .bool s4.wr] 70)) := by
 have hz := h.h3c; have hz2 := h.hc4; have hnw := Bk.new (((((((((w4.setCell ⟨w3.heap.size, 0, none⟩ (.int .i64 o.kind)).setCell ⟨w3.heap.size, 1, none⟩ (.string o.data)).setCell ⟨w3.heap.size, 2, none⟩ (.slice osl.eA osl.en osl.ec)).setCell ⟨w3.heap.size, 3, none⟩ (.int .u64 o.tree.1)).setCell ⟨w3.heap.size, 4, none⟩ (.int .u64 o.tree.2)).setCell ⟨w3.heap.size, 5, none⟩ (.slice osl.pA osl.pn osl.pc)).setCell ⟨w3.heap.size, 6, none⟩ (.string o.auth)).setCell ⟨w3.heap.size, 7, none⟩ (.int .i64 o.time)).setCell ⟨w3.heap.size, 8, none⟩ (.string o.msg)) 70 #[.slice pA pn pc, .string pre, .slice f4 fn4 fc4, .slice m4 mn4 mc4, .slice cJ cnj ccj, .slice hA hn hc, .bool s4.wr]; have hs : (((((((((w4.setCell ⟨w3.heap.size, 0, none⟩ (.int .i64 o.kind)).setCell ⟨w3.heap.size, 1, none⟩ (.string o.data)).setCell ⟨w3.heap.size, 2, none⟩ (.slice osl.eA osl.en osl.ec)).setCell ⟨w3.heap.size, 3, none⟩ (.int .u64 o.tree.1)).setCell ⟨w3.heap.size, 4, none⟩ (.int .u64 o.tree.2)).setCell ⟨w3.heap.size, 5, none⟩ (.slice osl.pA osl.pn osl.pc)).setCell ⟨w3.heap.size, 6, none⟩ (.string o.auth)).setCell ⟨w3.heap.size, 7, none⟩ (.int .i64 o.time)).setCell ⟨w3.heap.size, 8, none⟩ (.string o.msg)).heap.size = w4.heap.size := by simp
 rw [hs] at hnw; exact iQ h.hR3 h.hR4 h.hok h.h3c h.hc4 h.of h.om (fun k h1 h2 _ => (Below.heap_alloc _ _ k (by rw [hs]; exact h1)).trans (gm h2 (.int .i64 o.kind) (.string o.data) (.slice osl.eA osl.en osl.ec) (.int .u64 o.tree.1) (.int .u64 o.tree.2) (.slice osl.pA osl.pn osl.pc) (.string o.auth) (.int .i64 o.time) (.string o.msg))) (by simp) ((aP h.hb ai (.int .i64 o.kind) (.string o.data) (.slice osl.eA osl.en osl.ec) (.int .u64 o.tree.1) (.int .u64 o.tree.2) (.slice osl.pA osl.pn osl.pc) (.string o.auth) (.int .i64 o.time) (.string o.msg)).alloc (by rw [hs]; omega) _) (.inr ⟨Nat.le_refl _, by omega, ko⟩) (.inl ai) ((aQ ko (.int .i64 o.kind) (.string o.data) (.slice osl.eA osl.en osl.ec) (.int .u64 o.tree.1) (.int .u64 o.tree.2) (.slice osl.pA osl.pn osl.pc) (.string o.auth) (.int .i64 o.time) (.string o.msg)).alloc _) hnw
theorem Ga (hw : wcs = w3.heap.size + 1) (kw : Bk w4 w3.heap.size 70 #[.slice none 0 0, .string ⟨#[]⟩, .slice none 0 0, .slice none 0 0, .slice none 0 0, .slice none 0 0, .bool false]) :
  R9 p U pA pn pc pre fJ fnj mJ mnj cJ cnj ccj hA hn hc com s4 r w3 (.pointer (some ⟨w4.heap.size, 0, none⟩)) (.pointer (some ⟨w3.heap.size, 0, none⟩)) (.bool ok)
   ((((((((w4.setCell ⟨w3.heap.size, 0, none⟩ (.slice pA pn pc)).setCell ⟨w3.heap.size, 1, none⟩ (.string pre)).setCell ⟨w3.heap.size, 2, none⟩ (.slice f4 fn4 fc4)).setCell ⟨w3.heap.size, 3, none⟩ (.slice m4 mn4 mc4)).setCell ⟨w3.heap.size, 4, none⟩ (.slice cJ cnj ccj)).setCell ⟨w3.heap.size, 5, none⟩ (.slice hA hn hc)).setCell ⟨w3.heap.size, 6, none⟩ (.bool s4.wr)).alloc (.cells #[.int .i64 o.kind, .string o.data, .slice osl.eA osl.en osl.ec, .int .u64 o.tree.1, .int .u64 o.tree.2, .slice osl.pA osl.pn osl.pc, .string o.auth, .int .i64 o.time, .string o.msg] 75)) := by
 have hz := h.h3c; have hz2 := h.hc4; have hnw := Bk.new (((((((w4.setCell ⟨w3.heap.size, 0, none⟩ (.slice pA pn pc)).setCell ⟨w3.heap.size, 1, none⟩ (.string pre)).setCell ⟨w3.heap.size, 2, none⟩ (.slice f4 fn4 fc4)).setCell ⟨w3.heap.size, 3, none⟩ (.slice m4 mn4 mc4)).setCell ⟨w3.heap.size, 4, none⟩ (.slice cJ cnj ccj)).setCell ⟨w3.heap.size, 5, none⟩ (.slice hA hn hc)).setCell ⟨w3.heap.size, 6, none⟩ (.bool s4.wr)) 75 #[.int .i64 o.kind, .string o.data, .slice osl.eA osl.en osl.ec, .int .u64 o.tree.1, .int .u64 o.tree.2, .slice osl.pA osl.pn osl.pc, .string o.auth, .int .i64 o.time, .string o.msg]; have hs : (((((((w4.setCell ⟨w3.heap.size, 0, none⟩ (.slice pA pn pc)).setCell ⟨w3.heap.size, 1, none⟩ (.string pre)).setCell ⟨w3.heap.size, 2, none⟩ (.slice f4 fn4 fc4)).setCell ⟨w3.heap.size, 3, none⟩ (.slice m4 mn4 mc4)).setCell ⟨w3.heap.size, 4, none⟩ (.slice cJ cnj ccj)).setCell ⟨w3.heap.size, 5, none⟩ (.slice hA hn hc)).setCell ⟨w3.heap.size, 6, none⟩ (.bool s4.wr)).heap.size = w4.heap.size := by simp
 rw [hs] at hnw; exact iQ h.hR3 h.hR4 h.hok h.h3c h.hc4 h.of h.om (fun k h1 _ h3 => (Below.heap_alloc _ _ k (by rw [hs]; exact h1)).trans (cK h3 (.slice pA pn pc) (.string pre) (.slice f4 fn4 fc4) (.slice m4 mn4 mc4) (.slice cJ cnj ccj) (.slice hA hn hc) (.bool s4.wr))) (by simp) ((dD h.hb ai (.slice pA pn pc) (.string pre) (.slice f4 fn4 fc4) (.slice m4 mn4 mc4) (.slice cJ cnj ccj) (.slice hA hn hc) (.bool s4.wr)).alloc (by rw [hs]; omega) _) (.inl ai) (.inr ⟨Nat.le_refl _, kw⟩) hnw ((dE kw (.slice pA pn pc) (.string pre) (.slice f4 fn4 fc4) (.slice m4 mn4 mc4) (.slice cJ cnj ccj) (.slice hA hn hc) (.bool s4.wr)).alloc _)
theorem Gc (hw : wcs = w3.heap.size + 1 + 1) (ko : Bk w4 w3.heap.size 75 #[.int .i64 0, .string ⟨#[]⟩, .slice none 0 0, .int .u64 0, .int .u64 0, .slice none 0 0, .string ⟨#[]⟩, .int .i64 0, .string ⟨#[]⟩]) (kw : Bk w4 (w3.heap.size + 1) 70 #[.slice none 0 0, .string ⟨#[]⟩, .slice none 0 0, .slice none 0 0, .slice none 0 0, .slice none 0 0, .bool false]) :
  R9 p U pA pn pc pre fJ fnj mJ mnj cJ cnj ccj hA hn hc com s4 r w3 (.pointer (some ⟨w3.heap.size, 0, none⟩)) (.pointer (some ⟨w3.heap.size + 1, 0, none⟩)) (.bool ok)
   ((((((((((((((((w4.setCell ⟨w3.heap.size, 0, none⟩ (.int .i64 o.kind)).setCell ⟨w3.heap.size, 1, none⟩ (.string o.data)).setCell ⟨w3.heap.size, 2, none⟩ (.slice osl.eA osl.en osl.ec)).setCell ⟨w3.heap.size, 3, none⟩ (.int .u64 o.tree.1)).setCell ⟨w3.heap.size, 4, none⟩ (.int .u64 o.tree.2)).setCell ⟨w3.heap.size, 5, none⟩ (.slice osl.pA osl.pn osl.pc)).setCell ⟨w3.heap.size, 6, none⟩ (.string o.auth)).setCell ⟨w3.heap.size, 7, none⟩ (.int .i64 o.time)).setCell ⟨w3.heap.size, 8, none⟩ (.string o.msg)).setCell ⟨w3.heap.size + 1, 0, none⟩ (.slice pA pn pc)).setCell ⟨w3.heap.size + 1, 1, none⟩ (.string pre)).setCell ⟨w3.heap.size + 1, 2, none⟩ (.slice f4 fn4 fc4)).setCell ⟨w3.heap.size + 1, 3, none⟩ (.slice m4 mn4 mc4)).setCell ⟨w3.heap.size + 1, 4, none⟩ (.slice cJ cnj ccj)).setCell ⟨w3.heap.size + 1, 5, none⟩ (.slice hA hn hc)).setCell ⟨w3.heap.size + 1, 6, none⟩ (.bool s4.wr)) := by
 have hz := h.h3c; have hz2 := h.hc4; exact iQ h.hR3 h.hR4 h.hok h.h3c h.hc4 h.of h.om (fun k h1 h2 h3 => (cK h3 (.slice pA pn pc) (.string pre) (.slice f4 fn4 fc4) (.slice m4 mn4 mc4) (.slice cJ cnj ccj) (.slice hA hn hc) (.bool s4.wr)).trans (gm h2 (.int .i64 o.kind) (.string o.data) (.slice osl.eA osl.en osl.ec) (.int .u64 o.tree.1) (.int .u64 o.tree.2) (.slice osl.pA osl.pn osl.pc) (.string o.auth) (.int .i64 o.time) (.string o.msg))) (by simp) (dD (aP h.hb (by omega) (.int .i64 o.kind) (.string o.data) (.slice osl.eA osl.en osl.ec) (.int .u64 o.tree.1) (.int .u64 o.tree.2) (.slice osl.pA osl.pn osl.pc) (.string o.auth) (.int .i64 o.time) (.string o.msg)) (by omega) (.slice pA pn pc) (.string pre) (.slice f4 fn4 fc4) (.slice m4 mn4 mc4) (.slice cJ cnj ccj) (.slice hA hn hc) (.bool s4.wr)) (.inr ⟨by omega, by omega, ko⟩) (.inr ⟨by omega, kw⟩) (dW (aQ ko (.int .i64 o.kind) (.string o.data) (.slice osl.eA osl.en osl.ec) (.int .u64 o.tree.1) (.int .u64 o.tree.2) (.slice osl.pA osl.pn osl.pc) (.string o.auth) (.int .i64 o.time) (.string o.msg)) (by omega) (.slice pA pn pc) (.string pre) (.slice f4 fn4 fc4) (.slice m4 mn4 mc4) (.slice cJ cnj ccj) (.slice hA hn hc) (.bool s4.wr)) (dE (iP kw (by omega) (.int .i64 o.kind) (.string o.data) (.slice osl.eA osl.en osl.ec) (.int .u64 o.tree.1) (.int .u64 o.tree.2) (.slice osl.pA osl.pn osl.pc) (.string o.auth) (.int .i64 o.time) (.string o.msg)) (.slice pA pn pc) (.string pre) (.slice f4 fn4 fc4) (.slice m4 mn4 mc4) (.slice cJ cnj ccj) (.slice hA hn hc) (.bool s4.wr))
theorem Gf (hw : wcs = w3.heap.size + 1 + 1) (ko : Bk w4 (w3.heap.size + 1) 75 #[.int .i64 0, .string ⟨#[]⟩, .slice none 0 0, .int .u64 0, .int .u64 0, .slice none 0 0, .string ⟨#[]⟩, .int .i64 0, .string ⟨#[]⟩]) (kw : Bk w4 w3.heap.size 70 #[.slice none 0 0, .string ⟨#[]⟩, .slice none 0 0, .slice none 0 0, .slice none 0 0, .slice none 0 0, .bool false]) :
  R9 p U pA pn pc pre fJ fnj mJ mnj cJ cnj ccj hA hn hc com s4 r w3 (.pointer (some ⟨w3.heap.size + 1, 0, none⟩)) (.pointer (some ⟨w3.heap.size, 0, none⟩)) (.bool ok)
   ((((((((((((((((w4.setCell ⟨w3.heap.size + 1, 0, none⟩ (.int .i64 o.kind)).setCell ⟨w3.heap.size + 1, 1, none⟩ (.string o.data)).setCell ⟨w3.heap.size + 1, 2, none⟩ (.slice osl.eA osl.en osl.ec)).setCell ⟨w3.heap.size + 1, 3, none⟩ (.int .u64 o.tree.1)).setCell ⟨w3.heap.size + 1, 4, none⟩ (.int .u64 o.tree.2)).setCell ⟨w3.heap.size + 1, 5, none⟩ (.slice osl.pA osl.pn osl.pc)).setCell ⟨w3.heap.size + 1, 6, none⟩ (.string o.auth)).setCell ⟨w3.heap.size + 1, 7, none⟩ (.int .i64 o.time)).setCell ⟨w3.heap.size + 1, 8, none⟩ (.string o.msg)).setCell ⟨w3.heap.size, 0, none⟩ (.slice pA pn pc)).setCell ⟨w3.heap.size, 1, none⟩ (.string pre)).setCell ⟨w3.heap.size, 2, none⟩ (.slice f4 fn4 fc4)).setCell ⟨w3.heap.size, 3, none⟩ (.slice m4 mn4 mc4)).setCell ⟨w3.heap.size, 4, none⟩ (.slice cJ cnj ccj)).setCell ⟨w3.heap.size, 5, none⟩ (.slice hA hn hc)).setCell ⟨w3.heap.size, 6, none⟩ (.bool s4.wr)) := by
 have hz := h.h3c; have hz2 := h.hc4; exact iQ h.hR3 h.hR4 h.hok h.h3c h.hc4 h.of h.om (fun k h1 h2 h3 => (cK h3 (.slice pA pn pc) (.string pre) (.slice f4 fn4 fc4) (.slice m4 mn4 mc4) (.slice cJ cnj ccj) (.slice hA hn hc) (.bool s4.wr)).trans (gm h2 (.int .i64 o.kind) (.string o.data) (.slice osl.eA osl.en osl.ec) (.int .u64 o.tree.1) (.int .u64 o.tree.2) (.slice osl.pA osl.pn osl.pc) (.string o.auth) (.int .i64 o.time) (.string o.msg))) (by simp) (dD (aP h.hb (by omega) (.int .i64 o.kind) (.string o.data) (.slice osl.eA osl.en osl.ec) (.int .u64 o.tree.1) (.int .u64 o.tree.2) (.slice osl.pA osl.pn osl.pc) (.string o.auth) (.int .i64 o.time) (.string o.msg)) (by omega) (.slice pA pn pc) (.string pre) (.slice f4 fn4 fc4) (.slice m4 mn4 mc4) (.slice cJ cnj ccj) (.slice hA hn hc) (.bool s4.wr)) (.inr ⟨by omega, by omega, ko⟩) (.inr ⟨by omega, kw⟩) (dW (aQ ko (.int .i64 o.kind) (.string o.data) (.slice osl.eA osl.en osl.ec) (.int .u64 o.tree.1) (.int .u64 o.tree.2) (.slice osl.pA osl.pn osl.pc) (.string o.auth) (.int .i64 o.time) (.string o.msg)) (by omega) (.slice pA pn pc) (.string pre) (.slice f4 fn4 fc4) (.slice m4 mn4 mc4) (.slice cJ cnj ccj) (.slice hA hn hc) (.bool s4.wr)) (dE (iP kw (by omega) (.int .i64 o.kind) (.string o.data) (.slice osl.eA osl.en osl.ec) (.int .u64 o.tree.1) (.int .u64 o.tree.2) (.slice osl.pA osl.pn osl.pc) (.string o.auth) (.int .i64 o.time) (.string o.msg)) (.slice pA pn pc) (.string pre) (.slice f4 fn4 fc4) (.slice m4 mn4 mc4) (.slice cJ cnj ccj) (.slice hA hn hc) (.bool s4.wr))
end
end
end
end Go.Proofs.YtlcecobipgmafaaGreatDoor
