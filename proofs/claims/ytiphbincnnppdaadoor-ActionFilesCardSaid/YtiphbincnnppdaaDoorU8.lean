/-
  Lemmas: ActionFiles. Six arguments, one of them a byte.
-/
import Derived.Deep.CutRange
import Derived.Deep.RegionHeld3
import Derived.Test.YtiphbincnnppdaaDoorU7

namespace Go.Proofs.YtiphbincnnppdaaDoor
open Go.RowKit Go.Maps

theorem ls35 {vs : List Value} (h : vs.length = 35) : ∃ v0 v1 v2 v3 v4 v5 v6 v7 v8 v9 v10 v11 v12 v13 v14 v15 v16 v17 v18 v19 v20 v21 v22 v23 v24 v25 v26 v27 v28 v29 v30 v31 v32 v33 v34, vs = v0 :: v1 :: v2 :: v3 :: v4 :: v5 :: v6 :: v7 :: v8 :: v9 :: v10 :: v11 :: v12 :: v13 :: v14 :: v15 :: v16 :: v17 :: v18 :: v19 :: v20 :: v21 :: v22 :: v23 :: v24 :: v25 :: v26 :: v27 :: v28 :: v29 :: v30 :: v31 :: v32 :: v33 :: v34 :: [] := by
  match vs, h with
  | v0 :: v1 :: v2 :: v3 :: v4 :: v5 :: v6 :: v7 :: v8 :: v9 :: v10 :: v11 :: v12 :: v13 :: v14 :: v15 :: v16 :: v17 :: v18 :: v19 :: v20 :: v21 :: v22 :: v23 :: v24 :: v25 :: v26 :: v27 :: v28 :: v29 :: v30 :: v31 :: v32 :: v33 :: v34 :: [], _ => exact ⟨_, _, _, _, _, _, _, _, _, _, _, _, _, _, _, _, _, _, _, _, _, _, _, _, _, _, _, _, _, _, _, _, _, _, _, rfl⟩

/-- a block of another type is as it was behind an append -/
theorem bk_kept {w w' : World} {b : Nat} {e e2 : TypeId} {cs : Array Value} (h : Bk w b e cs) (hk : OthersKept e2 w w') (hne : e ≠ e2) : Bk w' b e cs := by
  have h1 : w.ownsRow b e cs.size (.slice (some ⟨b, 0, none⟩) 1 1) 1 cs.toList :=
    ⟨by simp, .inr ⟨b, 1, cs, rfl, Nat.le_refl _, h, Nat.le_refl _, by unfold maxLen; omega, by simp, by rw [Nat.one_mul]; exact List.take_of_length_le (by simp)⟩⟩
  rcases (hk _ _ _ _ _ _ hne h1).2 with ⟨h2, _⟩ | ⟨g, cap, cur, hv, _, hc, _, _, hs, ht⟩
  · cases h2
  · injection hv with hv1 _ hv3
    injection hv1 with hv4
    injection hv4 with hv5
    subst hv5; subst hv3
    have : cur = cs := by
      apply Array.toList_inj.1
      rw [← ht, Nat.one_mul, List.take_of_length_le (by simp at hs ⊢; omega)]
    subst this
    exact hc
/-- what begins with a string and no slice behind it does not lie in a Ready -/
theorem Sl.box4 {w : World} {B size n b : Nat} {t : TypeId} {A : Option Addr} {xs : List Value} {k0 : Int} {l0 : ByteArray} {a0 a1 : Option Addr} {m0 m1 p0 p1 : Nat} (h : Sl w B size A n xs) (h2 : 2 ≤ size) (hx : ∀ x r, xs = x :: r → ∃ s v r', x = .string s ∧ r = v :: r' ∧ notSlice v = true)
    (hk : Bk w b t #[.int .i64 k0, .string l0, .slice a0 m0 p0, .slice a1 m1 p1]) (x y z u : Value) : Sl ((((w.setCell ⟨b, 0, none⟩ x).setCell ⟨b, 1, none⟩ y).setCell ⟨b, 2, none⟩ z).setCell ⟨b, 3, none⟩ u) B size A n xs := by
  refine ⟨h.1, fun hn => ?_⟩
  obtain ⟨b', off, rfl, hb', hc⟩ := h.2 hn
  have hne : b' ≠ b := by
    rintro rfl
    have hlen : 0 < xs.length := by rw [h.1]; exact Nat.mul_pos hn (by omega)
    cases xs with
    | nil => simp at hlen
    | cons x r =>
      obtain ⟨s, v, r', rfl, rfl, hv⟩ := hx _ _ rfl
      have e0 := hc 0 _ rfl
      have e1 := hc 1 _ rfl
      rw [hk.cell] at e0 e1
      match off, e0, e1 with
      | 0, e0, _ => simp at e0
      | 1, _, e1 => simp at e1; rw [← e1] at hv; cases hv
      | 2, e0, _ => simp at e0
      | 3, e0, _ => simp at e0
      | o + 4, e0, _ => simp at e0
  refine ⟨b', off, rfl, hb', fun j v hv => ?_⟩
  rw [← hc j v hv]
  exact World.cell?_of_block ((((Below.heap_setCell _ _ _ b' hne).trans (Below.heap_setCell _ _ _ b' hne)).trans (Below.heap_setCell _ _ _ b' hne)).trans (Below.heap_setCell _ _ _ b' hne))
theorem fl_head (l : List Fl) : ∀ x r, flat flC l = x :: r → ∃ s v r', x = .string s ∧ r = v :: r' ∧ notSlice v = true := fun x r h => by
  cases l with
  | nil => cases h
  | cons f l => simp [flat, flC] at h; obtain ⟨rfl, rfl⟩ := h; exact ⟨_, _, _, rfl, rfl, rfl⟩
theorem ip_head (l : List Ipt) : ∀ x r, flat ipC l = x :: r → ∃ s v r', x = .string s ∧ r = v :: r' ∧ notSlice v = true := fun x r h => by
  cases l with
  | nil => cases h
  | cons f l => simp [flat, ipC] at h; obtain ⟨rfl, rfl⟩ := h; exact ⟨_, _, _, rfl, rfl, rfl⟩

/-- y's box, and what it holds -/
def YBx (ts : List Tg) (lab : ByteArray) (kd : Int) (fs : List Fl) (w : World) (bb : Nat) (err : Int) : Prop :=
  ∃ k l A1 n1 c1 A2 n2 c2 out, Bk w bb 46 #[.int .i64 k, .string l, .slice A1 n1 c1, .slice A2 n2 c2] ∧ RdyIn w kd lab out err k l A1 n1 A2 n2 ∧ MkR ts lab kd fs out err
theorem below_box {w0 w : World} {B b : Nat} {t : TypeId} {cs : Array Value} (_ : Bk w b t cs) (h : Below B w0 w) (hb : B ≤ b) (x y z u : Value) : Below B w0 ((((w.setCell ⟨b, 0, none⟩ x).setCell ⟨b, 1, none⟩ y).setCell ⟨b, 2, none⟩ z).setCell ⟨b, 3, none⟩ u) := below_set4 h hb x y z u
theorem YBx.of_alloc {ts : List Tg} {lab : ByteArray} {kd : Int} {fs out : List Fl} {w : World} {err k : Int} {l : ByteArray} {A1 A2 : Option Addr} {n1 c1 n2 c2 : Nat} (h : RdyIn w kd lab out err k l A1 n1 A2 n2) (hm : MkR ts lab kd fs out err) :
    YBx ts lab kd fs (w.alloc (.cells #[.int .i64 k, .string l, .slice A1 n1 c1, .slice A2 n2 c2] 46)) w.heap.size err := by
  obtain ⟨h1, h2, h3, h4⟩ := h
  have hb := (Below.refl w.heap.size w).alloc (Nat.le_refl _) (.cells #[.int .i64 k, .string l, .slice A1 n1 c1, .slice A2 n2 c2] 46)
  exact ⟨k, l, A1, n1, c1, A2, n2, c2, out, Bk.new w _ _, ⟨h1, h2, (h3.below hb (Nat.le_refl _)).more hb.size, (h4.below hb (Nat.le_refl _)).more hb.size⟩, hm⟩
theorem YBx.of_set {ts : List Tg} {lab : ByteArray} {kd : Int} {fs out : List Fl} {w : World} {b : Nat} {err k : Int} {l : ByteArray} {A1 A2 : Option Addr} {n1 c1 n2 c2 : Nat} {k0 : Int} {l0 : ByteArray} {a0 a1 : Option Addr} {m0 m1 p0 p1 : Nat} (hk : Bk w b 46 #[.int .i64 k0, .string l0, .slice a0 m0 p0, .slice a1 m1 p1])
    (h : RdyIn w kd lab out err k l A1 n1 A2 n2) (hm : MkR ts lab kd fs out err) :
    YBx ts lab kd fs ((((w.setCell ⟨b, 0, none⟩ (.int .i64 k)).setCell ⟨b, 1, none⟩ (.string l)).setCell ⟨b, 2, none⟩ (.slice A1 n1 c1)).setCell ⟨b, 3, none⟩ (.slice A2 n2 c2)) b err := by
  obtain ⟨h1, h2, h3, h4⟩ := h
  refine ⟨k, l, A1, n1, c1, A2, n2, c2, out, ?_, ⟨h1, h2, ?_, ?_⟩, hm⟩
  · have := (((hk.set 0 (.int .i64 k)).set 1 (.string l)).set 2 (.slice A1 n1 c1)).set 3 (.slice A2 n2 c2)
    simpa using this
  · exact (h3.box4 (by decide) (ip_head _) hk _ _ _ _).more (by simp)
  · exact (h4.box4 (by decide) (fl_head _) hk _ _ _ _).more (by simp)
theorem halt_app' {P : Program} {ops : Array Oper} {rest : List Oper} {o : Oper} {a : Act} {w : World} {Q : Exit → Act → World → Prop} (s x : Operand) (t : TypeId) (_ : o.op = .call { callee := .builtin .append, args := #[s, x], argTypes := #[t, t] })
    (h : Hid (wpList P ops Q (o :: rest) a w)) : wpList P ops Q (o :: rest) a w := h
theorem wrap_small' {x : Int} (h1 : -9223372036854775808 ≤ x) (h2 : x < 9223372036854775808) : IntKind.i64.wrap x = x := by
  simp [IntKind.wrap, IntKind.bits, IntKind.signed]; omega
/-- a cell of one's own row set -/
theorem own_put {w : World} {base size n c : Nat} {e : TypeId} {A : Option Addr} {xs : List Value} (h : w.ownsRow base e size (.slice A n c) n xs) (hn : n ≠ 0) :
    ∃ g, A = some ⟨g, 0, none⟩ ∧ base ≤ g ∧ ∀ j u, j < xs.length → w.cell? ⟨g, j, none⟩ = xs[j]? ∧ w.frozen? ⟨g, j, none⟩ = false ∧ Sl (w.setCell ⟨g, j, none⟩ u) w.heap.size size A n (xs.set j u) := by
  rcases h.2 with ⟨_, h2⟩ | ⟨g, cap, cur, hv, hb, hc, hnc, hcm, hs, ht⟩
  · exact absurd h2 hn
  · injection hv with hv1 _ hv3
    subst hv1; subst hv3
    refine ⟨g, rfl, hb, fun j u hj => ⟨?_, Bk.free (w := w) (t := e) (cs := cur) hc j, ?_⟩⟩
    · rw [Bk.cell (w := w) (t := e) (cs := cur) hc, ← ht]
      have hj2 : j < n * size := by rw [← h.1]; exact hj
      rw [List.getElem?_take, if_pos hj2]; simp
    · have hb2 := Bk.set (w := w) (t := e) (cs := cur) hc j u
      have : (w.setCell ⟨g, j, none⟩ u).ownsRow base e size (.slice (some ⟨g, 0, none⟩) n c) n (xs.set j u) :=
        ⟨by simp [h.1], .inr ⟨g, c, cur.setIfInBounds j u, rfl, hb, hb2, hnc, hcm, by simp [hs], by rw [← ht]; simp [List.take_set]⟩⟩
      have h3 := Sl.of_own this
      rwa [set_size'] at h3
theorem flat_set : ∀ (l : List Fl) (k : Nat) (f : Fl) (y : ByteArray), l[k]? = some f → flat flC (l.set k (f.1, y)) = (flat flC l).set (k * 2 + 1) (.string y)
  | [], k, f, y, h => by simp at h
  | a :: l, 0, f, y, h => by simp at h; subst h; simp [flat, flC]
  | a :: l, k + 1, f, y, h => by
    have ih := flat_set l k f y (by simpa using h)
    have e : (k + 1) * 2 + 1 = (k * 2 + 1) + 1 + 1 := by omega
    simp only [flat] at ih
    simp [flat, flC, e, ih]
def xW : ByteArray := ⟨#[120]⟩
theorem set_ne {l : List Fl} {k : Nat} {f : Fl} (h : l[k]? = some f) : l.set k (f.1, f.2 ++ xW) ≠ l := fun e => by
  have hk := (List.getElem?_eq_some_iff.1 h).1
  have h1 : (l.set k (f.1, f.2 ++ xW))[k]? = some (f.1, f.2 ++ xW) := by rw [List.getElem?_set]; simp [hk]
  rw [e, h] at h1
  injection h1 with h1
  have h2 : f.2 = f.2 ++ xW := congrArg Prod.snd h1
  have h3 := congrArg ByteArray.size h2
  rw [ByteArray.size_append] at h3
  have : xW.size = 1 := rfl
  omega
theorem lookF_mem2 : ∀ {fs : List Fl} {s d : ByteArray}, lookF fs s = some d → ∃ f ∈ fs, f.2 = d
  | [], _, _, h => by cases h
  | r :: fs, s, d, h => by
    simp only [lookF] at h
    by_cases e : r.1 = s
    · rw [if_pos e] at h; cases h; exact ⟨r, by simp, rfl⟩
    · rw [if_neg e] at h
      obtain ⟨f, hf, e2⟩ := lookF_mem2 h
      exact ⟨f, by simp [hf], e2⟩

set_option maxRecDepth 100000 in
set_option maxHeartbeats 16000000 in
theorem lawFls_any (A : Option Addr) (n c : Nat) (ts : List Tg) (lab : ByteArray) (kd : Int) (fA : Option Addr) (fn fc : Nat) (fs : List Fl) (mA : Option Addr) (mn mc : Nat) (ms : List Fl) (zn : Nat) (w : World) (h0 : Sl w w.heap.size 4 A n (flat tgC ts)) (hok : ∀ t ∈ ts, TgOk w w.heap.size t) (hnc : n ≤ c) (hcm : c ≤ maxLen) (hls : lab.size ≤ maxLen)
    (hf : Sl w w.heap.size 2 fA fn (flat flC fs)) (hfs : ∀ f ∈ fs, f.1.size ≤ maxLen ∧ f.2.size ≤ maxLen) (hm : Sl w w.heap.size 2 mA mn (flat flC ms)) (hms : ∀ f ∈ ms, f.1.size ≤ maxLen ∧ f.2.size ≤ maxLen) (hz : zn < 256) :
    Calls Tryd.prog 5 #[.agg #[.slice A n c], .string lab, .int .i64 kd, .slice fA fn fc, .slice mA mn mc, .int .u8 (zn : Int)] w (LawEnd w) := by
  have HFL := Lib.hid (hf.len flC_len (by omega)); have HML := Lib.hid (hm.len flC_len (by omega))
  have H0 := Lib.hid h0; have HOK := Lib.hid hok; have HLS := Lib.hid hls; have HF := Lib.hid hf; have HFS := Lib.hid hfs; have HM := Lib.hid hm; have HMS := Lib.hid hms
  clear h0 hok hf hfs hm hms
  have hlm : lab.size ≤ 9223372036854775807 := by unfold maxLen at hls; exact hls
  clear hls
  obtain ⟨W0, hW0⟩ : ∃ W0, w.alloc (.cells #[.slice A n c] 24) = W0 := ⟨_, rfl⟩
  have HB0 : Hid (Below w.heap.size w W0) := by rw [← hW0]; exact (Below.refl _ w).alloc (Nat.le_refl _) _
  have zW0 : W0.heap.size = w.heap.size + 1 := by rw [← hW0]; simp
  have HG : Hid (Bk W0 w.heap.size 24 #[.slice A n c]) := by rw [← hW0]; exact Bk.new w _ _
  have g0 := HG.out.cell 0
  simp at g0
  have HGR := Lib.hid (rgreat_any A n c w.heap.size ts W0 (H0.out.below HB0.out (Nat.le_refl _)) (fun t ht => (HOK.out t ht).below HB0.out (Nat.le_refl _)) hnc hcm)
  have HGF := Lib.hid (greatF_any fA fn fc w.heap.size fs W0 (HF.out.below HB0.out (Nat.le_refl _)))
  have HGM := Lib.hid (greatF_any mA mn mc w.heap.size ms W0 (HM.out.below HB0.out (Nat.le_refl _)))
  go_enter Tryd.func5, Tryd.ntmps5
  go_wp2_with fail
  refine HGR.out.mono ?_
  rintro e w1 ⟨r, rfl, _, rfl⟩
  cases r with
  | true =>
    go_wp2_with fail
    refine (awake_any _).mono ?_
    rintro e wz ⟨rfl, hbz⟩
    have HBz := Lib.hid (HB0.out.trans (hbz.mono HB0.out.size)); clear hbz
    go_wp2_with fail
    go_ret
    exact ⟨rfl, HBz.out⟩
  | false =>
    by_cases hl : (200 : Int) < (lab.size : Int)
    · go_wp2_with fail
      refine (awake_any _).mono ?_
      rintro e wz ⟨rfl, hbz⟩
      have HBz := Lib.hid (HB0.out.trans (hbz.mono HB0.out.size)); clear hbz
      go_wp2_with fail
      go_ret
      exact ⟨rfl, HBz.out⟩
    · by_cases hsm : SmallF fs
      case neg =>
        rw [decide_eq_false hsm] at HGF
        clear hsm
        go_wp2_with fail
        refine HGF.out.mono ?_
        rintro e wf ⟨rfl, rfl⟩
        go_wp2_with fail
        refine (awake_any _).mono ?_
        rintro e wz ⟨rfl, hbz⟩
        have HBz := Lib.hid (HB0.out.trans (hbz.mono HB0.out.size)); clear hbz
        go_wp2_with fail
        go_ret
        exact ⟨rfl, HBz.out⟩
      have hfn : fn ≤ 30 := by have := hsm.1; rw [HFL.out] at this; omega
      have HFSM : Hid (∀ f ∈ fs, f.2.size ≤ 1000) := fun f hf => (hsm.2 f hf).2
      rw [decide_eq_true hsm] at HGF
      clear hsm
      by_cases hsm : SmallF ms
      case neg =>
        rw [decide_eq_false hsm] at HGM
        clear hsm
        go_wp2_with fail
        refine HGF.out.mono ?_
        rintro e wf ⟨rfl, rfl⟩
        go_wp2_with fail
        refine HGM.out.mono ?_
        rintro e wf ⟨rfl, rfl⟩
        go_wp2_with fail
        refine (awake_any _).mono ?_
        rintro e wz ⟨rfl, hbz⟩
        have HBz := Lib.hid (HB0.out.trans (hbz.mono HB0.out.size)); clear hbz
        go_wp2_with fail
        go_ret
        exact ⟨rfl, HBz.out⟩
      have hmn : mn ≤ 30 := by have := hsm.1; rw [HML.out] at this; omega
      rw [decide_eq_true hsm] at HGM
      clear hsm
      have HMK := Lib.hid (make_any A n c w.heap.size ts lab kd fA fn fc fs W0 (H0.out.below HB0.out (Nat.le_refl _)) (fun t ht => (HOK.out t ht).below HB0.out (Nat.le_refl _)) (by omega) hnc hcm HLS.out (HF.out.below HB0.out (Nat.le_refl _)) (by omega) HFS.out)
      go_wp2_with fail
      refine HGF.out.mono ?_
      rintro e wf ⟨rfl, rfl⟩
      go_wp2_with fail
      refine HGM.out.mono ?_
      rintro e wf ⟨rfl, rfl⟩
      go_wp2_with fail
      refine HMK.out.mono ?_
      rintro e w2 ⟨k, l, A1, n1, c1, A2, n2, c2, out, err, rfl, ⟨hk, hlb, hs1, hs2⟩, m1, m2, m3, m4, hmr, hb2⟩
      have HB2 : Hid (Below w.heap.size w w2) := HB0.out.trans (hb2.mono (by omega))
      have hz2 := hb2.size
      obtain ⟨W2, hW2⟩ : ∃ W2, w2.alloc (.cells #[.int .i64 k, .string l, .slice A1 n1 c1, .slice A2 n2 c2] 46) = W2 := ⟨_, rfl⟩
      have HK2 : Hid (Bk W2 w2.heap.size 46 #[.int .i64 k, .string l, .slice A1 n1 c1, .slice A2 n2 c2]) := by rw [← hW2]; exact Bk.new w2 _ _
      have HB2' : Hid (Below w.heap.size w W2) := by rw [← hW2]; exact HB2.out.alloc HB2.out.size _
      have hbw2 : Below w2.heap.size w2 W2 := by rw [← hW2]; exact (Below.refl _ w2).alloc (Nat.le_refl _) _
      have zW2 : W2.heap.size = w2.heap.size + 1 := by rw [← hW2]; simp
      have HG2 := Lib.hid ((HG.out.below hb2 (by omega)).below hbw2 (by omega))
      have HS1 : Hid (Sl W2 W2.heap.size 3 A1 n1 (flat ipC (out.map ipF))) := (hs1.below hbw2 (Nat.le_refl _)).more (by omega)
      have HS2 : Hid (Sl W2 W2.heap.size 2 A2 n2 (flat flC out)) := (hs2.below hbw2 (Nat.le_refl _)).more (by omega)
      have HMR := Lib.hid hmr; have HKK := Lib.hid hk; have HLL := Lib.hid hlb
      clear hk hlb
      have h1m : n1 ≤ maxLen := Nat.le_trans m1 m2
      have h2m : n2 ≤ maxLen := Nat.le_trans m3 m4
      have HW2 := Lib.hid hW2
      clear hs1 hs2 m1 m3 hmr hb2 hbw2 HMK HGF HGR HGM hW0 hW2
      by_cases her : err = 0
      case neg =>
        have p1 : (err != 0) = true := by rw [bne_iff_ne]; exact her
        clear her
        go_wp2_with fail
        rw [HW2.out]
        refine (awake_any _).mono ?_
        rintro e wz ⟨rfl, hbz⟩
        have HBz := Lib.hid (HB2'.out.trans (hbz.mono HB2'.out.size)); clear hbz
        go_wp2_with fail
        go_ret
        exact ⟨rfl, HBz.out⟩
      subst her
      have hk := HKK.out; have hlb := HLL.out
      rw [if_pos rfl] at hk hlb
      subst hk
      subst hlb
      have HZ := Lib.hid HMR.out.zero
      have hol : out.length ≤ 101 := by have := (inp_small HZ.out.1).1; simpa using this
      have hon : out.length ≠ 0 := fun h => (inp_asc HZ.out.1).2 (by rw [List.length_eq_zero_iff.1 h]; rfl)
      have he1 : Hid (n1 = out.length) := by have := HS1.out.len ipC_len (by omega); show _ = _; simpa using this.symm
      have he2 : Hid (n2 = out.length) := (HS2.out.len flC_len (by omega)).symm
      have HIN := Lib.hid (inputs_any A n c w.heap.size ts l k W2 (H0.out.below HB2'.out (Nat.le_refl _)) (fun t ht => (HOK.out t ht).below HB2'.out (Nat.le_refl _)) HB2'.out.size hnc hcm HLS.out)
      have g2 := HG2.out.cell 0
      simp at g2
      rw [← HW2.out] at g2
      clear g0
      go_wp2_with fail
      rw [HW2.out]
      refine HIN.out.mono ?_
      rintro e w3 ⟨nA, nn, nc, nl, ne, rfl, hs3, hn3, hc3, hb3, hr3⟩
      obtain ⟨hnl, rfl⟩ := hr3.same HZ.out.1
      subst hnl
      have hen : nn = out.length := by have := hs3.1; rw [strs_len] at this; simp at this; omega
      have HB3 : Hid (Below w.heap.size w w3) := HB2'.out.trans (hb3.mono HB2'.out.size)
      have hz3 := hb3.size
      have HK3 := Lib.hid (HK2.out.below hb3 (by omega)); have HG3 := Lib.hid (HG2.out.below hb3 (by omega))
      have HS13 : Hid (Sl w3 w3.heap.size 3 A1 n1 (flat ipC (out.map ipF))) := (HS1.out.below hb3 (Nat.le_refl _)).more hz3
      have HS23 : Hid (Sl w3 w3.heap.size 2 A2 n2 (flat flC out)) := (HS2.out.below hb3 (Nat.le_refl _)).more hz3
      have HNS := Lib.hid hs3
      obtain rfl : n1 = nn := he1.out.trans hen.symm
      obtain rfl : n2 = n1 := he2.out.trans he1.out.symm
      have HOL : Hid (n2 = out.length) := he2.out
      have he2' := he2.out
      have hn0 : ((n2 : Int) == 0) = false := by rw [beq_eq_false_iff_ne]; omega
      have hn101 : n2 ≤ 101 := by omega
      have HCK : Hid (Calls Tryd.prog 18 #[.agg #[.int .i64 k, .string l, .slice A1 n2 c1]] w3 fun e w' => e = .returned (.int .i64 0) ∧ Below w3.heap.size w3 w') := by
        have := check_any k l A1 n2 c1 w3.heap.size (out.map ipF) w3 HS13.out (Nat.le_refl _) (by unfold maxLen; omega) HLS.out (fun f hf => by
          obtain ⟨g, hg, rfl⟩ := List.mem_map.1 hf
          have := (inp_small HZ.out.1).2 g.1 (List.mem_map_of_mem hg)
          unfold maxLen; show g.1.size ≤ _; omega)
        rw [mk_chk HZ.out.1 (by omega)] at this
        exact this
      clear hs3 hn3 hb3 hr3 he1 he2 he2' hen hol hon HIN g2
      have x0 := HK3.out.cell 0; have x1 := HK3.out.cell 1; have x2 := HK3.out.cell 2; have x3 := HK3.out.cell 3
      simp at x0 x1 x2 x3
      go_wp2_with fail
      refine HCK.out.mono ?_
      rintro e w4 ⟨rfl, hb4⟩
      have HB4 : Hid (Below w.heap.size w w4) := HB3.out.trans (hb4.mono HB3.out.size)
      have hz4 := hb4.size
      have HK4 := Lib.hid (HK3.out.below hb4 (by omega)); have HG4 := Lib.hid (HG3.out.below hb4 (by omega))
      have HS14 : Hid (Sl w4 w4.heap.size 3 A1 n2 (flat ipC (out.map ipF))) := (HS13.out.below hb4 (Nat.le_refl _)).more hz4
      have HS24 : Hid (Sl w4 w4.heap.size 2 A2 n2 (flat flC out)) := (HS23.out.below hb4 (Nat.le_refl _)).more hz4
      have HN4 : Hid (Sl w4 w4.heap.size 1 nA n2 (strs (out.map Prod.fst))) := (HNS.out.below hb4 (Nat.le_refl _)).more hz4
      clear hb4 x0 x1 x2 x3 HCK
      go_wp2_with fail
      go_loopw [108] (fun q wr => ∃ ix : Nat, ix ≤ n2 ∧ q = .int .i64 ix ∧ Hid (Below w4.heap.size w4 wr)) (fun q _ => n2 - (intOf q).toNat)
      case atStart => exact ⟨0, Nat.zero_le _, rfl, Below.refl _ _⟩
      case round =>
        obtain ⟨ix, hi, rfl, hBi⟩ := hrel
        have hzi := hBi.out.size
        have HBw : Hid (Below w.heap.size w wr) := HB4.out.trans (hBi.out.mono HB4.out.size)
        have HKi := Lib.hid (HK4.out.below hBi.out (by omega))
        by_cases hin : ix < n2
        · obtain ⟨nb, no, s, rfl, hnb, hsx, y0⟩ := (HN4.out.below hBi.out (Nat.le_refl _)).str_at hin
          obtain ⟨b2, o2, f, rfl, hb2, hfx, z0, z1⟩ := (HS24.out.below hBi.out (Nat.le_refl _)).fl hin
          obtain ⟨b1, o1, g, rfl, hb1, hgx, v0, v1, v2⟩ := (HS14.out.below hBi.out (Nat.le_refl _)).ip hin
          have hiz : (ix : Int) < (n2 : Int) := by omega
          obtain ⟨q1, q2, hq⟩ : ∃ q1 q2, ofB (toL f.2) = (q1, q2) := ⟨_, _, rfl⟩
          have hg : g = (f.1, (q1, q2)) := by
            rw [List.getElem?_map, hfx] at hgx
            simp only [Option.map_some, Option.some.injEq] at hgx
            rw [← hgx]; unfold ipF; rw [hq]
          have hs : f.1 = s := by
            rw [List.getElem?_map, hfx] at hsx
            simpa using hsx
          have hds : f.2.size ≤ 65536 := (HZ.out.2 f (List.mem_of_getElem? hfx)).2
          obtain ⟨d, hd⟩ : ∃ d, f.2 = d := ⟨_, rfl⟩
          rw [hg] at v0 v1 v2
          rw [hs] at z0 v0
          rw [hd] at z1 hds hq
          have HDS : Hid (d.size ≤ maxLen) := by show _ ≤ _; unfold maxLen; omega
          have HOF2 : Hid (∀ W e w', OfEnd d W e w' → e = .returned (.agg #[.int .u64 q1, .int .u64 q2]) ∧ Below W.heap.size W w') := fun W e w' h => by
            unfold OfEnd at h; rw [hq] at h; exact h
          have x2 := HKi.out.cell 2; have x3 := HKi.out.cell 3
          simp at x2 x3
          have HX2 := Lib.hid x2; have HX3 := Lib.hid x3
          have HF0 := Lib.hid z0; have HF1 := Lib.hid z1; have HP0 := Lib.hid v0; have HP1 := Lib.hid v1; have HP2 := Lib.hid v2
          clear hsx hfx hgx hg hs hd hq hds z0 z1 v0 v1 v2 x2 x3
          go_wp2_with fail
          refine wp_region_stableGD 35 (113 :: 114 :: 115 :: 116 :: 117 :: 118 :: 119 :: 120 :: 121 :: 122 :: 123 :: 124 :: 125 :: 126 :: 127 :: 128 :: 129 :: 130 :: 131 :: 132 :: 133 :: 134 :: 135 :: 136 :: 137 :: 138 :: 139 :: 140 :: 141 :: 142 :: 143 :: 144 :: 145 :: 146 :: 147 :: []) (by kernel_rfl) (by kernel_rfl) (by kernel_rfl) (fun W => Below wr.heap.size wr W) (fun W W' => Below W.heap.size W W')
            (vPhi ((.pointer (some ⟨w2.heap.size, 3, none⟩)) :: (.slice (some ⟨b2, o2, none⟩) n2 c2) :: (.int .i64 (ix : Int)) :: (.pointer (some ⟨b2, o2 + ix * 2, none⟩)) :: (.pointer (some ⟨b2, o2 + ix * 2, none⟩)) :: (.string s) :: (.string s) :: (.bool false) :: (.bool false) :: (.pointer (some ⟨w2.heap.size, 0, none⟩)) :: (.pointer (some ⟨w2.heap.size, 2, none⟩)) :: (.slice (some ⟨b1, o1, none⟩) n2 c1) :: (.int .i64 (ix : Int)) :: (.pointer (some ⟨b1, o1 + ix * 3, none⟩)) :: (.pointer (some ⟨b1, o1 + ix * 3, none⟩)) :: (.string s) :: (.string s) :: (.bool false) :: (.bool false) :: (.bool false) :: (.pointer (some ⟨w2.heap.size, 0, none⟩)) :: (.pointer (some ⟨w2.heap.size, 2, none⟩)) :: (.slice (some ⟨b1, o1, none⟩) n2 c1) :: (.int .i64 (ix : Int)) :: (.pointer (some ⟨b1, o1 + ix * 3, none⟩)) :: (.pointer (some ⟨b1, o1 + ix * 3 + 1, none⟩)) :: (.agg #[.int .u64 q1, .int .u64 q2]) :: (.pointer (some ⟨w2.heap.size, 3, none⟩)) :: (.slice (some ⟨b2, o2, none⟩) n2 c2) :: (.int .i64 (ix : Int)) :: (.pointer (some ⟨b2, o2 + ix * 2, none⟩)) :: (.pointer (some ⟨b2, o2 + ix * 2 + 1, none⟩)) :: (.string d) :: (.agg #[.int .u64 q1, .int .u64 q2]) :: (.bool false) :: [])) (fun W W' h1 h2 => h1.trans (h2.mono h1.size)) (fun i v W W' h _ => h) (Below.refl _ _).drew ?stepA ?tailA
          case stepA =>
            intro i o vs W hi ho hv hR hphi
            obtain ⟨v0, v1, v2, v3, v4, v5, v6, v7, v8, v9, v10, v11, v12, v13, v14, v15, v16, v17, v18, v19, v20, v21, v22, v23, v24, v25, v26, v27, v28, v29, v30, v31, v32, v33, v34, rfl⟩ := ls35 hv
            simp only [List.zip, List.zipWith, putAll, Act.put, List.setIfInBounds_toArray, List.set]
            have hWz := hR.size
            have x2 := (hR.cell (p := ⟨w2.heap.size, 2, none⟩) (by show w2.heap.size < _; omega)).trans HX2.out
            have x3 := (hR.cell (p := ⟨w2.heap.size, 3, none⟩) (by show w2.heap.size < _; omega)).trans HX3.out
            have f0 := (hR.cell (p := ⟨b2, o2 + ix * 2, none⟩) (by show b2 < _; omega)).trans HF0.out
            have f1 := (hR.cell (p := ⟨b2, o2 + ix * 2 + 1, none⟩) (by show b2 < _; omega)).trans HF1.out
            have p0 := (hR.cell (p := ⟨b1, o1 + ix * 3, none⟩) (by show b1 < _; omega)).trans HP0.out
            have p1 := (hR.cell (p := ⟨b1, o1 + ix * 3 + 1, none⟩) (by show b1 < _; omega)).trans HP1.out
            have p2 := (hR.cell (p := ⟨b1, o1 + ix * 3 + 2, none⟩) (by show b1 < _; omega)).trans HP2.out
            match i, hi, ho with
            | 0, _, rfl =>
              exact .inl ⟨rfl, gives_value (v := .pointer (some ⟨w2.heap.size, 3, none⟩)) (w' := W) (by go_simp) ⟨Below.refl _ _, fun u hu => by cases hu; rfl⟩⟩
            | 1, _, rfl =>
              have e0 : v0 = _ := hphi ⟨0, .data⟩ (by simp) rfl v0 rfl _ rfl
              subst e0
              exact .inl ⟨rfl, gives_value (v := .slice (some ⟨b2, o2, none⟩) n2 c2) (w' := W) (by go_simp) ⟨Below.refl _ _, fun u hu => by cases hu; rfl⟩⟩
            | 2, _, rfl =>
              exact .inl ⟨rfl, gives_value (v := .int .i64 (ix : Int)) (w' := W) (by go_simp) ⟨Below.refl _ _, fun u hu => by cases hu; rfl⟩⟩
            | 3, _, rfl =>
              have e1 : v1 = _ := hphi ⟨1, .data⟩ (by simp) rfl v1 rfl _ rfl
              have e2 : v2 = _ := hphi ⟨2, .data⟩ (by simp) rfl v2 rfl _ rfl
              subst e1 e2
              exact .inl ⟨rfl, gives_value (v := .pointer (some ⟨b2, o2 + ix * 2, none⟩)) (w' := W) (by go_simp) ⟨Below.refl _ _, fun u hu => by cases hu; rfl⟩⟩
            | 4, _, rfl =>
              have e3 : v3 = _ := hphi ⟨3, .data⟩ (by simp) rfl v3 rfl _ rfl
              subst e3
              exact .inl ⟨rfl, gives_value (v := .pointer (some ⟨b2, o2 + ix * 2, none⟩)) (w' := W) (by go_simp) ⟨Below.refl _ _, fun u hu => by cases hu; rfl⟩⟩
            | 5, _, rfl =>
              have e4 : v4 = _ := hphi ⟨4, .data⟩ (by simp) rfl v4 rfl _ rfl
              subst e4
              exact .inl ⟨rfl, gives_value (v := .string s) (w' := W) (by go_simp) ⟨Below.refl _ _, fun u hu => by cases hu; rfl⟩⟩
            | 6, _, rfl =>
              exact .inl ⟨rfl, gives_value (v := .string s) (w' := W) (by go_simp) ⟨Below.refl _ _, fun u hu => by cases hu; rfl⟩⟩
            | 7, _, rfl =>
              have e5 : v5 = _ := hphi ⟨5, .data⟩ (by simp) rfl v5 rfl _ rfl
              have e6 : v6 = _ := hphi ⟨6, .data⟩ (by simp) rfl v6 rfl _ rfl
              subst e5 e6
              exact .inl ⟨rfl, gives_value (v := .bool false) (w' := W) (by go_simp) ⟨Below.refl _ _, fun u hu => by cases hu; rfl⟩⟩
            | 8, _, rfl =>
              have e7 : v7 = _ := hphi ⟨7, .data⟩ (by simp) rfl v7 rfl _ rfl
              subst e7
              exact .inl ⟨rfl, gives_value (v := .bool false) (w' := W) (by go_simp) ⟨Below.refl _ _, fun u hu => by cases hu; rfl⟩⟩
            | 9, _, rfl =>
              have e8 : v8 = _ := hphi ⟨8, .guard⟩ (by simp) rfl v8 rfl _ rfl
              subst e8
              exact .inl ⟨rfl, gives_value (v := .pointer (some ⟨w2.heap.size, 0, none⟩)) (w' := W) (by go_simp) ⟨Below.refl _ _, fun u hu => by cases hu; rfl⟩⟩
            | 10, _, rfl =>
              have e9 : v9 = _ := hphi ⟨9, .data⟩ (by simp) rfl v9 rfl _ rfl
              have e8 : v8 = _ := hphi ⟨8, .guard⟩ (by simp) rfl v8 rfl _ rfl
              subst e8 e9
              exact .inl ⟨rfl, gives_value (v := .pointer (some ⟨w2.heap.size, 2, none⟩)) (w' := W) (by go_simp) ⟨Below.refl _ _, fun u hu => by cases hu; rfl⟩⟩
            | 11, _, rfl =>
              have e10 : v10 = _ := hphi ⟨10, .data⟩ (by simp) rfl v10 rfl _ rfl
              have e8 : v8 = _ := hphi ⟨8, .guard⟩ (by simp) rfl v8 rfl _ rfl
              subst e8 e10
              exact .inl ⟨rfl, gives_value (v := .slice (some ⟨b1, o1, none⟩) n2 c1) (w' := W) (by go_simp) ⟨Below.refl _ _, fun u hu => by cases hu; rfl⟩⟩
            | 12, _, rfl =>
              have e8 : v8 = _ := hphi ⟨8, .guard⟩ (by simp) rfl v8 rfl _ rfl
              subst e8
              exact .inl ⟨rfl, gives_value (v := .int .i64 (ix : Int)) (w' := W) (by go_simp) ⟨Below.refl _ _, fun u hu => by cases hu; rfl⟩⟩
            | 13, _, rfl =>
              have e11 : v11 = _ := hphi ⟨11, .data⟩ (by simp) rfl v11 rfl _ rfl
              have e12 : v12 = _ := hphi ⟨12, .data⟩ (by simp) rfl v12 rfl _ rfl
              have e8 : v8 = _ := hphi ⟨8, .guard⟩ (by simp) rfl v8 rfl _ rfl
              subst e8 e11 e12
              exact .inl ⟨rfl, gives_value (v := .pointer (some ⟨b1, o1 + ix * 3, none⟩)) (w' := W) (by go_simp) ⟨Below.refl _ _, fun u hu => by cases hu; rfl⟩⟩
            | 14, _, rfl =>
              have e13 : v13 = _ := hphi ⟨13, .data⟩ (by simp) rfl v13 rfl _ rfl
              have e8 : v8 = _ := hphi ⟨8, .guard⟩ (by simp) rfl v8 rfl _ rfl
              subst e8 e13
              exact .inl ⟨rfl, gives_value (v := .pointer (some ⟨b1, o1 + ix * 3, none⟩)) (w' := W) (by go_simp) ⟨Below.refl _ _, fun u hu => by cases hu; rfl⟩⟩
            | 15, _, rfl =>
              have e14 : v14 = _ := hphi ⟨14, .data⟩ (by simp) rfl v14 rfl _ rfl
              have e8 : v8 = _ := hphi ⟨8, .guard⟩ (by simp) rfl v8 rfl _ rfl
              subst e8 e14
              exact .inl ⟨rfl, gives_value (v := .string s) (w' := W) (by go_simp) ⟨Below.refl _ _, fun u hu => by cases hu; rfl⟩⟩
            | 16, _, rfl =>
              have e8 : v8 = _ := hphi ⟨8, .guard⟩ (by simp) rfl v8 rfl _ rfl
              subst e8
              exact .inl ⟨rfl, gives_value (v := .string s) (w' := W) (by go_simp) ⟨Below.refl _ _, fun u hu => by cases hu; rfl⟩⟩
            | 17, _, rfl =>
              have e15 : v15 = _ := hphi ⟨15, .data⟩ (by simp) rfl v15 rfl _ rfl
              have e16 : v16 = _ := hphi ⟨16, .data⟩ (by simp) rfl v16 rfl _ rfl
              have e8 : v8 = _ := hphi ⟨8, .guard⟩ (by simp) rfl v8 rfl _ rfl
              subst e8 e15 e16
              exact .inl ⟨rfl, gives_value (v := .bool false) (w' := W) (by go_simp) ⟨Below.refl _ _, fun u hu => by cases hu; rfl⟩⟩
            | 18, _, rfl =>
              have e8 : v8 = _ := hphi ⟨8, .data⟩ (by simp) rfl v8 rfl _ rfl
              have e17 : v17 = _ := hphi ⟨17, .data⟩ (by simp) rfl v17 rfl _ rfl
              subst e8 e17
              exact .inl ⟨rfl, gives_value (v := .bool false) (w' := W) (by go_simp) ⟨Below.refl _ _, fun u hu => by cases hu; rfl⟩⟩
            | 19, _, rfl =>
              have e18 : v18 = _ := hphi ⟨18, .data⟩ (by simp) rfl v18 rfl _ rfl
              subst e18
              exact .inl ⟨rfl, gives_value (v := .bool false) (w' := W) (by go_simp) ⟨Below.refl _ _, fun u hu => by cases hu; rfl⟩⟩
            | 20, _, rfl =>
              have e19 : v19 = _ := hphi ⟨19, .guard⟩ (by simp) rfl v19 rfl _ rfl
              subst e19
              exact .inl ⟨rfl, gives_value (v := .pointer (some ⟨w2.heap.size, 0, none⟩)) (w' := W) (by go_simp) ⟨Below.refl _ _, fun u hu => by cases hu; rfl⟩⟩
            | 21, _, rfl =>
              have e20 : v20 = _ := hphi ⟨20, .data⟩ (by simp) rfl v20 rfl _ rfl
              have e19 : v19 = _ := hphi ⟨19, .guard⟩ (by simp) rfl v19 rfl _ rfl
              subst e19 e20
              exact .inl ⟨rfl, gives_value (v := .pointer (some ⟨w2.heap.size, 2, none⟩)) (w' := W) (by go_simp) ⟨Below.refl _ _, fun u hu => by cases hu; rfl⟩⟩
            | 22, _, rfl =>
              have e21 : v21 = _ := hphi ⟨21, .data⟩ (by simp) rfl v21 rfl _ rfl
              have e19 : v19 = _ := hphi ⟨19, .guard⟩ (by simp) rfl v19 rfl _ rfl
              subst e19 e21
              exact .inl ⟨rfl, gives_value (v := .slice (some ⟨b1, o1, none⟩) n2 c1) (w' := W) (by go_simp) ⟨Below.refl _ _, fun u hu => by cases hu; rfl⟩⟩
            | 23, _, rfl =>
              have e19 : v19 = _ := hphi ⟨19, .guard⟩ (by simp) rfl v19 rfl _ rfl
              subst e19
              exact .inl ⟨rfl, gives_value (v := .int .i64 (ix : Int)) (w' := W) (by go_simp) ⟨Below.refl _ _, fun u hu => by cases hu; rfl⟩⟩
            | 24, _, rfl =>
              have e22 : v22 = _ := hphi ⟨22, .data⟩ (by simp) rfl v22 rfl _ rfl
              have e23 : v23 = _ := hphi ⟨23, .data⟩ (by simp) rfl v23 rfl _ rfl
              have e19 : v19 = _ := hphi ⟨19, .guard⟩ (by simp) rfl v19 rfl _ rfl
              subst e19 e22 e23
              exact .inl ⟨rfl, gives_value (v := .pointer (some ⟨b1, o1 + ix * 3, none⟩)) (w' := W) (by go_simp) ⟨Below.refl _ _, fun u hu => by cases hu; rfl⟩⟩
            | 25, _, rfl =>
              have e24 : v24 = _ := hphi ⟨24, .data⟩ (by simp) rfl v24 rfl _ rfl
              have e19 : v19 = _ := hphi ⟨19, .guard⟩ (by simp) rfl v19 rfl _ rfl
              subst e19 e24
              exact .inl ⟨rfl, gives_value (v := .pointer (some ⟨b1, o1 + ix * 3 + 1, none⟩)) (w' := W) (by go_simp) ⟨Below.refl _ _, fun u hu => by cases hu; rfl⟩⟩
            | 26, _, rfl =>
              have e25 : v25 = _ := hphi ⟨25, .data⟩ (by simp) rfl v25 rfl _ rfl
              have e19 : v19 = _ := hphi ⟨19, .guard⟩ (by simp) rfl v19 rfl _ rfl
              subst e19 e25
              exact .inl ⟨rfl, gives_value (v := .agg #[.int .u64 q1, .int .u64 q2]) (w' := W) (by go_simp) ⟨Below.refl _ _, fun u hu => by cases hu; rfl⟩⟩
            | 27, _, rfl =>
              have e19 : v19 = _ := hphi ⟨19, .guard⟩ (by simp) rfl v19 rfl _ rfl
              subst e19
              exact .inl ⟨rfl, gives_value (v := .pointer (some ⟨w2.heap.size, 3, none⟩)) (w' := W) (by go_simp) ⟨Below.refl _ _, fun u hu => by cases hu; rfl⟩⟩
            | 28, _, rfl =>
              have e27 : v27 = _ := hphi ⟨27, .data⟩ (by simp) rfl v27 rfl _ rfl
              have e19 : v19 = _ := hphi ⟨19, .guard⟩ (by simp) rfl v19 rfl _ rfl
              subst e19 e27
              exact .inl ⟨rfl, gives_value (v := .slice (some ⟨b2, o2, none⟩) n2 c2) (w' := W) (by go_simp) ⟨Below.refl _ _, fun u hu => by cases hu; rfl⟩⟩
            | 29, _, rfl =>
              have e19 : v19 = _ := hphi ⟨19, .guard⟩ (by simp) rfl v19 rfl _ rfl
              subst e19
              exact .inl ⟨rfl, gives_value (v := .int .i64 (ix : Int)) (w' := W) (by go_simp) ⟨Below.refl _ _, fun u hu => by cases hu; rfl⟩⟩
            | 30, _, rfl =>
              have e28 : v28 = _ := hphi ⟨28, .data⟩ (by simp) rfl v28 rfl _ rfl
              have e29 : v29 = _ := hphi ⟨29, .data⟩ (by simp) rfl v29 rfl _ rfl
              have e19 : v19 = _ := hphi ⟨19, .guard⟩ (by simp) rfl v19 rfl _ rfl
              subst e19 e28 e29
              exact .inl ⟨rfl, gives_value (v := .pointer (some ⟨b2, o2 + ix * 2, none⟩)) (w' := W) (by go_simp) ⟨Below.refl _ _, fun u hu => by cases hu; rfl⟩⟩
            | 31, _, rfl =>
              have e30 : v30 = _ := hphi ⟨30, .data⟩ (by simp) rfl v30 rfl _ rfl
              have e19 : v19 = _ := hphi ⟨19, .guard⟩ (by simp) rfl v19 rfl _ rfl
              subst e19 e30
              exact .inl ⟨rfl, gives_value (v := .pointer (some ⟨b2, o2 + ix * 2 + 1, none⟩)) (w' := W) (by go_simp) ⟨Below.refl _ _, fun u hu => by cases hu; rfl⟩⟩
            | 32, _, rfl =>
              have e31 : v31 = _ := hphi ⟨31, .data⟩ (by simp) rfl v31 rfl _ rfl
              have e19 : v19 = _ := hphi ⟨19, .guard⟩ (by simp) rfl v19 rfl _ rfl
              subst e19 e31
              exact .inl ⟨rfl, gives_value (v := .string d) (w' := W) (by go_simp) ⟨Below.refl _ _, fun u hu => by cases hu; rfl⟩⟩
            | 33, _, rfl =>
              have e32 : v32 = _ := hphi ⟨32, .data⟩ (by simp) rfl v32 rfl _ rfl
              have e19 : v19 = _ := hphi ⟨19, .guard⟩ (by simp) rfl v19 rfl _ rfl
              subst e19 e32
              refine .inl ⟨rfl, gives_call (f := 19) (args := #[.string d]) (by go_simp) ((rof_any d W HDS.out).mono ?_)⟩
              rintro e W' hoe
              obtain ⟨rfl, hb'⟩ := HOF2.out W _ _ hoe; exact ⟨_, rfl, hb', fun u hu => by cases hu; rfl⟩
            | 34, _, rfl =>
              have e26 : v26 = _ := hphi ⟨26, .data⟩ (by simp) rfl v26 rfl _ rfl
              have e33 : v33 = _ := hphi ⟨33, .data⟩ (by simp) rfl v33 rfl _ rfl
              have e19 : v19 = _ := hphi ⟨19, .guard⟩ (by simp) rfl v19 rfl _ rfl
              subst e19 e26 e33
              exact .inl ⟨rfl, gives_value (v := .bool false) (w' := W) (by go_simp) ⟨Below.refl _ _, fun u hu => by cases hu; rfl⟩⟩
            | i + 35, hi, _ => exact absurd hi (by omega)
          case tailA =>
            intro vs W hv hR hphi
            obtain ⟨v0, v1, v2, v3, v4, v5, v6, v7, v8, v9, v10, v11, v12, v13, v14, v15, v16, v17, v18, v19, v20, v21, v22, v23, v24, v25, v26, v27, v28, v29, v30, v31, v32, v33, v34, rfl⟩ := ls35 hv
            simp only [List.zip, List.zipWith, putAll, Act.put, List.setIfInBounds_toArray, List.set, List.drop]
            have e0 : v0 = _ := hphi 0 v0 rfl _ rfl
            have e1 : v1 = _ := hphi 1 v1 rfl _ rfl
            have e2 : v2 = _ := hphi 2 v2 rfl _ rfl
            have e3 : v3 = _ := hphi 3 v3 rfl _ rfl
            have e4 : v4 = _ := hphi 4 v4 rfl _ rfl
            have e5 : v5 = _ := hphi 5 v5 rfl _ rfl
            have e6 : v6 = _ := hphi 6 v6 rfl _ rfl
            have e7 : v7 = _ := hphi 7 v7 rfl _ rfl
            have e8 : v8 = _ := hphi 8 v8 rfl _ rfl
            have e9 : v9 = _ := hphi 9 v9 rfl _ rfl
            have e10 : v10 = _ := hphi 10 v10 rfl _ rfl
            have e11 : v11 = _ := hphi 11 v11 rfl _ rfl
            have e12 : v12 = _ := hphi 12 v12 rfl _ rfl
            have e13 : v13 = _ := hphi 13 v13 rfl _ rfl
            have e14 : v14 = _ := hphi 14 v14 rfl _ rfl
            have e15 : v15 = _ := hphi 15 v15 rfl _ rfl
            have e16 : v16 = _ := hphi 16 v16 rfl _ rfl
            have e17 : v17 = _ := hphi 17 v17 rfl _ rfl
            have e18 : v18 = _ := hphi 18 v18 rfl _ rfl
            have e19 : v19 = _ := hphi 19 v19 rfl _ rfl
            have e20 : v20 = _ := hphi 20 v20 rfl _ rfl
            have e21 : v21 = _ := hphi 21 v21 rfl _ rfl
            have e22 : v22 = _ := hphi 22 v22 rfl _ rfl
            have e23 : v23 = _ := hphi 23 v23 rfl _ rfl
            have e24 : v24 = _ := hphi 24 v24 rfl _ rfl
            have e25 : v25 = _ := hphi 25 v25 rfl _ rfl
            have e26 : v26 = _ := hphi 26 v26 rfl _ rfl
            have e27 : v27 = _ := hphi 27 v27 rfl _ rfl
            have e28 : v28 = _ := hphi 28 v28 rfl _ rfl
            have e29 : v29 = _ := hphi 29 v29 rfl _ rfl
            have e30 : v30 = _ := hphi 30 v30 rfl _ rfl
            have e31 : v31 = _ := hphi 31 v31 rfl _ rfl
            have e32 : v32 = _ := hphi 32 v32 rfl _ rfl
            have e33 : v33 = _ := hphi 33 v33 rfl _ rfl
            have e34 : v34 = _ := hphi 34 v34 rfl _ rfl
            subst e0 e1 e2 e3 e4 e5 e6 e7 e8 e9 e10 e11 e12 e13 e14 e15 e16 e17 e18 e19 e20 e21 e22 e23 e24 e25 e26 e27 e28 e29 e30 e31 e32 e33 e34
            clear hphi hv
            have HBi2 : Hid (Below w4.heap.size w4 W) := hBi.out.trans (hR.mono hzi)
            clear hR
            go_wp2_with fail
            go_roundw
            case rel => exact ⟨ix + 1, hin, by go_num, HBi2.out⟩
            case measure => simp [intOf]; omega
        · have hiz : ¬ (ix : Int) < (n2 : Int) := by omega
          obtain ⟨wo, hwo⟩ : ∃ wo, wo = wr := ⟨_, rfl⟩
          subst hwo
          have HGo := Lib.hid (HG4.out.below hBi.out (by omega))
          have g0 := HGo.out.cell 0
          simp at g0
          obtain ⟨i1, hj, hzj0, hzj1, hzj2⟩ := info_parts infoFil
          have Hj := Lib.hid hj; have Hy0 := Lib.hid hzj0; have Hy1 := Lib.hid hzj1; have Hy2 := Lib.hid hzj2
          clear hj hzj0 hzj1 hzj2
          have HOC : Hid (∀ l : List Fl, ∀ u ∈ flat flC l, u.oneCell' = true) := fun l u hu => by
            simp only [flat, List.mem_flatMap] at hu
            obtain ⟨f, _, hf⟩ := hu
            simp [flC] at hf
            rcases hf with rfl | rfl <;> rfl
          have HAPP : Hid (∀ X, Below wo.heap.size wo X → Below w.heap.size w X) := fun X hX => HBw.out.trans (hX.mono HBw.out.size)
          have HMZ : Hid (∀ A7 c7 Z, Below wo.heap.size wo Z → Sl Z Z.heap.size 2 A7 (fn + mn) (flat flC (fs ++ ms)) → Calls Tryd.prog 17 #[.agg #[.slice A n c], .string l, .int .i64 k, .slice A7 (fn + mn) c7] Z (MkEnd ts l k (fs ++ ms) Z)) := fun A7 c7 Z hZ hS => by
            have hw := HAPP.out Z hZ
            exact make_any A n c Z.heap.size ts l k A7 (fn + mn) c7 (fs ++ ms) Z ((H0.out.below hw (Nat.le_refl _)).more hw.size) (fun t ht => by
              have h := (HOK.out t ht).below hw (Nat.le_refl _)
              exact ⟨h.d.more hw.size, h.dle, h.dmax, h.v.more hw.size, h.vle, h.vmax, h.ls, h.ds, h.vs⟩) (Nat.le_refl _) hnc hcm HLS.out hS (by omega) (fun f hf => by
              rcases List.mem_append.1 hf with h | h
              · exact HFS.out f h
              · exact HMS.out f h)
          have HAA : Hid (flat flC (fs ++ ms) = flat flC fs ++ flat flC ms) := flat_append _ _
          have hgl := HGo.out.lt
          have KS : Hid (∀ W, Below wo.heap.size wo W → W.cell? ⟨w.heap.size, 0, none⟩ = some (.slice A n c)) := fun W h => by have g := (HGo.out.below h hgl).cell 0; simp at g; exact g
          go_upto_region 15 with fail
          go_cut [19, 20] from 150 to 161 (fun b er wx => ∃ (bb : Nat) (e8 : Int), b = .pointer (some ⟨bb, 0, none⟩) ∧ er = .int .i64 e8 ∧ Hid (YBx ts l k (fs ++ ms) wx bb e8) ∧ Hid (Below wo.heap.size wo wx) ∧ wo.heap.size ≤ bb)
          case first =>
            go_region_held3 (fun w' => w'.cell? ⟨w.heap.size, 0, none⟩ = some (.slice A n c))
              (first | exact g0 | exact KS.out _ QB5.out | exact KS.out _ QB7.out | exact KS.out _ QB8.out | exact KS.out _ (QB8.out.alloc QB8.out.size _) | exact KS.out _ (below_set4 QB8.out (by first | exact Nat.le_refl _ | exact Nat.le_succ _ | exact QB5.out.size | exact QB7.out.size) _ _ _ _) | exact KS.out _ (QB5.out.alloc QB5.out.size _) | exact KS.out _ (QB7.out.alloc QB7.out.size _) | exact KS.out _ ((Below.refl _ wo).alloc (Nat.le_refl _) _) | exact KS.out _ (((Below.refl _ wo).alloc (Nat.le_refl _) _).alloc (by simp) _) | go_keep)
              (first
                | (refine step_append_apdO (by rfl) (.tmp 154) (.tmp 155) 40 (by rfl) wo.heap.size 51 i1 _ 2 32 Tryd.underlying40 Hj.out Hy0.out Hy1.out Hy2.out rfl (by decide) _ 0 0 [] (by rfl) (.inr ⟨rfl, rfl, rfl⟩) w.heap.size fA fn fc (flat flC fs) (by rfl) (HF.out.below (HAPP.out _ (by first | exact ((Below.refl _ wo).alloc (Nat.le_refl _) _).drew | exact (((Below.refl _ wo).alloc (Nat.le_refl _) _).alloc (by simp) _).drew)) (Nat.le_refl _)) (HOC.out fs) (by unfold maxLen; omega) (by omega) (by simp <;> omega) ?_
                   intro A5 c5 w5 a5 hb5 hn5 hm5 hok5
                   have Q5 : Hid (Apd w5 wo.heap.size 51 2 A5 fn c5 (flat flC fs)) := by show Apd _ _ _ _ _ _ _ _; simpa using a5
                   have QB5 : Hid (Below wo.heap.size wo w5) := Below.trans (by first | exact ((Below.refl _ wo).alloc (Nat.le_refl _) _).drew | exact (((Below.refl _ wo).alloc (Nat.le_refl _) _).alloc (by simp) _).drew) hb5
                   try (first
                     | have QX5 : Hid (Bk w5 wo.heap.size 46 #[.int .i64 0, .string ⟨#[]⟩, .slice none 0 0, .slice none 0 0]) := bk_kept ((Bk.new wo 46 _).alloc _).drew hok5 (by decide)
                     | have QX5 : Hid (Bk w5 (wo.heap.size + 1) 46 #[.int .i64 0, .string ⟨#[]⟩, .slice none 0 0, .slice none 0 0]) := bk_kept (b := wo.heap.size + 1) (by have := Bk.new (wo.alloc (.cells #[] 51)) 46 #[.int .i64 0, .string ⟨#[]⟩, .slice none 0 0, .slice none 0 0]; rw [World.size_alloc] at this; exact this.drew) hok5 (by decide))
                   clear a5 hb5 hok5 hn5)
                | (refine step_append_apdO (by rfl) (.tmp 156) (.tmp 157) 40 (by rfl) wo.heap.size 51 i1 _ 2 32 Tryd.underlying40 Hj.out Hy0.out Hy1.out Hy2.out rfl (by decide) A5 fn c5 (flat flC fs) (by rfl) (by first | exact Q5.out | exact Q5.out.below ((Below.refl _ _).alloc (Nat.le_refl _) _)) w.heap.size mA mn mc (flat flC ms) (by rfl) (HM.out.below (HAPP.out _ (by first | exact QB5.out | exact QB5.out.alloc QB5.out.size _)) (Nat.le_refl _)) (HOC.out ms) (by unfold maxLen; omega) (by omega) (by first | exact QB5.out.size | (simp; have := QB5.out.size; omega)) ?_
                   intro A7 c7 w7 a7 hb7 hn7 hm7 hok7
                   have Q7 : Hid (Apd w7 wo.heap.size 51 2 A7 (fn + mn) c7 (flat flC (fs ++ ms))) := by show Apd _ _ _ _ _ _ _ _; rw [HAA.out]; exact a7
                   have QB7 : Hid (Below wo.heap.size wo w7) := Below.trans (by first | exact QB5.out | exact QB5.out.alloc QB5.out.size _) hb7
                   try (first
                     | have QX7 : Hid (Bk w7 _ 46 #[.int .i64 0, .string ⟨#[]⟩, .slice none 0 0, .slice none 0 0]) := bk_kept QX5.out hok7 (by decide)
                     | have QX7 : Hid (Bk w7 w5.heap.size 46 #[.int .i64 0, .string ⟨#[]⟩, .slice none 0 0, .slice none 0 0]) := bk_kept (Bk.new w5 _ _) hok7 (by decide))
                   clear a7 hb7 hok7 hn7)
                | (refine step_append_apdO (by rfl) (.tmp 156) (.tmp 157) 40 (by rfl) wo.heap.size 51 i1 _ 2 32 Tryd.underlying40 Hj.out Hy0.out Hy1.out Hy2.out rfl (by decide) A5 (0 + fn) c5 (flat flC fs) (by rfl) (by rw [Nat.zero_add]; first | exact Q5.out | exact Q5.out.below ((Below.refl _ _).alloc (Nat.le_refl _) _)) w.heap.size mA mn mc (flat flC ms) (by rfl) (HM.out.below (HAPP.out _ (by first | exact QB5.out | exact QB5.out.alloc QB5.out.size _)) (Nat.le_refl _)) (HOC.out ms) (by unfold maxLen; omega) (by omega) (by first | exact QB5.out.size | (simp; have := QB5.out.size; omega)) ?_
                   intro A7 c7 w7 a7 hb7 hn7 hm7 hok7
                   have Q7 : Hid (Apd w7 wo.heap.size 51 2 A7 (fn + mn) c7 (flat flC (fs ++ ms))) := by show Apd _ _ _ _ _ _ _ _; rw [HAA.out, ← Nat.zero_add fn]; exact a7
                   have QB7 : Hid (Below wo.heap.size wo w7) := Below.trans (by first | exact QB5.out | exact QB5.out.alloc QB5.out.size _) hb7
                   try (first
                     | have QX7 : Hid (Bk w7 _ 46 #[.int .i64 0, .string ⟨#[]⟩, .slice none 0 0, .slice none 0 0]) := bk_kept QX5.out hok7 (by decide)
                     | have QX7 : Hid (Bk w7 w5.heap.size 46 #[.int .i64 0, .string ⟨#[]⟩, .slice none 0 0, .slice none 0 0]) := bk_kept (Bk.new w5 _ _) hok7 (by decide))
                   have g7 := (HGo.out.below QB7.out hgl).cell 0
                   have g7a := ((HGo.out.below QB7.out hgl).alloc (.cells #[.int .i64 0, .string ⟨#[]⟩, .slice none 0 0, .slice none 0 0] 46)).cell 0
                   simp at g7 g7a
                   clear a7 hb7 hok7 hn7)
                | (go_simp; go_at_call 17; refine (HMZ.out A7 c7 _ (by first | exact QB7.out | exact QB7.out.alloc QB7.out.size _) (by first | exact Q7.out.sl | exact (Q7.out.below ((Below.refl _ _).alloc (Nat.le_refl _) _)).sl)).mono ?_; rintro e w8 hmk; obtain ⟨k8, l8, B1, p1, d1, B2, p2, d2, out8, err8, rfl, hri8, m81, m82, m83, m84, hmr8, hb8⟩ := hmk; have HRI8 := Lib.hid hri8; have HMR8 := Lib.hid hmr8; have QB8 : Hid (Below wo.heap.size wo w8) := Below.trans (by first | exact QB7.out | exact QB7.out.alloc QB7.out.size _) (hb8.mono (by first | exact QB7.out.size | (simp; have := QB7.out.size; omega))); (try (first | have QX8 : Hid (Bk w8 _ 46 #[.int .i64 0, .string ⟨#[]⟩, .slice none 0 0, .slice none 0 0]) := QX7.out.below hb8 QX7.out.lt | have QX8 : Hid (Bk w8 w7.heap.size 46 #[.int .i64 0, .string ⟨#[]⟩, .slice none 0 0, .slice none 0 0]) := (Bk.new w7 _ _).below hb8 (by simp))); (try (have d0 := QX8.out.cell 0; have d1 := QX8.out.cell 1; have d2 := QX8.out.cell 2; have d3 := QX8.out.cell 3; simp at d0 d1 d2 d3; have f0 := QX8.out.free 0; have f1 := QX8.out.free 1; have f2 := QX8.out.free 2; have f3 := QX8.out.free 3)); clear hri8 hmr8 hb8))
            all_goals
              (simp only [Exit.then]
               go_step
               go_meet
               refine ⟨_, err8, rfl, rfl, ?_, ?_, ?_⟩
               · first | exact YBx.of_set QX8.out HRI8.out HMR8.out | exact YBx.of_alloc HRI8.out HMR8.out
               · first
                    | exact below_box QX8.out QB8.out (by first | exact Nat.le_refl _ | exact Nat.le_succ _ | exact QB5.out.size | exact QB7.out.size) _ _ _ _
                    | exact QB8.out.alloc QB8.out.size _
               · first | exact Nat.le_refl _ | exact Nat.le_succ _ | exact QB5.out.size | exact QB7.out.size | exact QB8.out.size)
          case rest =>
            obtain ⟨bb, e8, rfl, rfl, hY, hB, hbb⟩ := hcut
            obtain ⟨k8, l8, B1, p1, d1, B2, p2, d2, out8, hkb, ⟨hk8, hl8, hs81, hs82⟩, hmr8⟩ := hY.out
            obtain ⟨rfl, rfl⟩ := (HMR.out.more (gs := ms)).same hmr8
            rw [if_pos rfl] at hk8 hl8
            obtain rfl : k = k8 := hk8.symm
            obtain rfl : l = l8 := hl8.symm
            have HKB := Lib.hid hkb; have HS81 := Lib.hid hs81; have HS82 := Lib.hid hs82
            have zwo := hBi.out.size; have zwc := hB.out.size
            have HBc := Lib.hid (HAPP.out _ hB.out)
            have HGc := Lib.hid (HGo.out.below hB.out hgl)
            have HKc := Lib.hid ((HK4.out.below hBi.out (by omega)).below hB.out (by omega))
            have HSc1 : Hid (Sl wc wc.heap.size 3 A1 n2 (flat ipC (out.map ipF))) := ((HS14.out.below hBi.out (Nat.le_refl _)).below hB.out zwo).more (by omega)
            have HSc2 : Hid (Sl wc wc.heap.size 2 A2 n2 (flat flC out)) := ((HS24.out.below hBi.out (Nat.le_refl _)).below hB.out zwo).more (by omega)
            have HOS : Hid (∀ f ∈ out, f.1.size ≤ maxLen ∧ f.2.size ≤ 65536) := fun f hf => ⟨by
              have := (inp_small HZ.out.1).2 f.1 (List.mem_map_of_mem hf)
              unfold maxLen; omega, (HZ.out.2 f hf).2⟩
            have HM16 := Lib.hid (make_any A n c wc.heap.size ts l k A2 n2 c2 out wc ((H0.out.below HBc.out (Nat.le_refl _)).more HBc.out.size) (fun t ht => by
              have h := (HOK.out t ht).below HBc.out (Nat.le_refl _)
              exact ⟨h.d.more HBc.out.size, h.dle, h.dmax, h.v.more HBc.out.size, h.vle, h.vmax, h.ls, h.ds, h.vs⟩) (Nat.le_refl _) hnc hcm HLS.out HSc2.out (by omega) (fun f hf => ⟨(HOS.out f hf).1, by have := (HOS.out f hf).2; unfold maxLen; omega⟩))
            have cg := HGc.out.cell 0; have ck := HKc.out.cell 3; have ck2 := HKc.out.cell 2; have ck1 := HKc.out.cell 1; have ck0 := HKc.out.cell 0
            simp at cg ck ck2 ck1 ck0
            clear hmr8 hs81 hs82 hkb hY g0 HMZ hk8 hl8
            go_wp2_with fail
            refine HM16.out.mono ?_
            rintro e w10 ⟨k10, l10, C1, q1, e1, C2, q2, e2, out10, err10, rfl, ⟨hk10, hl10, hs101, hs102⟩, _, _, _, _, hmr10, hb10⟩
            obtain ⟨rfl, rfl⟩ := (HMR.out.self rfl (fun f hf => (HOS.out f hf).2)).same hmr10
            rw [if_pos rfl] at hk10 hl10
            obtain rfl : k = k10 := hk10.symm
            obtain rfl : l = l10 := hl10.symm
            obtain ⟨W10, hW10⟩ : ∃ W10, w10.alloc (.cells #[.int .i64 k, .string l, .slice C1 q1 e1, .slice C2 q2 e2] 46) = W10 := ⟨_, rfl⟩
            have hbw10 : Below w10.heap.size w10 W10 := by rw [← hW10]; exact (Below.refl _ w10).alloc (Nat.le_refl _) _
            have zW10 : W10.heap.size = w10.heap.size + 1 := by rw [← hW10]; simp
            have zw10 := hb10.size
            have HBA : Hid (Below wc.heap.size wc W10) := hb10.trans (hbw10.mono zw10)
            have HK10 : Hid (Bk W10 w10.heap.size 46 #[.int .i64 k, .string l, .slice C1 q1 e1, .slice C2 q2 e2]) := by rw [← hW10]; exact Bk.new w10 _ _
            have HX10 := Lib.hid (HKc.out.below HBA.out (by omega))
            have HY10 := Lib.hid (HKB.out.below HBA.out HKB.out.lt)
            have HSD1 := Lib.hid ((hs101.below hbw10 (Nat.le_refl _)).more (B' := W10.heap.size) (by omega))
            have HSD2 := Lib.hid ((hs102.below hbw10 (Nat.le_refl _)).more (B' := W10.heap.size) (by omega))
            have HSE1 := Lib.hid ((HSc1.out.below HBA.out (Nat.le_refl _)).more (B' := W10.heap.size) (by omega))
            have HSE2 := Lib.hid ((HSc2.out.below HBA.out (Nat.le_refl _)).more (B' := W10.heap.size) (by omega))
            have HSF1 := Lib.hid ((HS81.out.below HBA.out (Nat.le_refl _)).more (B' := W10.heap.size) (by omega))
            have HSF2 := Lib.hid ((HS82.out.below HBA.out (Nat.le_refl _)).more (B' := W10.heap.size) (by omega))
            have HR1 := Lib.hid (sameR_any k l A1 A2 B1 B2 n2 c1 n2 c2 p1 d1 p2 d2 W10.heap.size (out.map ipF) out W10 HSE1.out HSE2.out HSF1.out HSF2.out (Nat.le_refl _) h1m h1m)
            have HW10 := Lib.hid hW10
            have a0 := HX10.out.cell 0; have a1 := HX10.out.cell 1; have a2 := HX10.out.cell 2; have a3 := HX10.out.cell 3
            have b0 := HY10.out.cell 0; have b1 := HY10.out.cell 1; have b2 := HY10.out.cell 2; have b3 := HY10.out.cell 3
            simp at a0 a1 a2 a3 b0 b1 b2 b3
            rw [← HW10.out] at a0 a1 a2 a3 b0 b1 b2 b3
            clear hmr10 hs101 hs102 hb10 hbw10 hk10 hl10 hW10 cg ck ck2 ck1 ck0 HM16
            go_wp2_with fail
            rw [HW10.out]
            refine HR1.out.mono ?_
            rintro e w11 ⟨rfl, hb11⟩
            have zw11 := hb11.size
            have HX11 := Lib.hid (HX10.out.below hb11 (by omega))
            have HZ11 := Lib.hid (HK10.out.below hb11 (by omega))
            have HR2 := Lib.hid (sameR_any k l A1 A2 C1 C2 n2 c1 n2 c2 q1 e1 q2 e2 w11.heap.size (out.map ipF) out w11 ((HSE1.out.below hb11 (Nat.le_refl _)).more zw11) ((HSE2.out.below hb11 (Nat.le_refl _)).more zw11) ((HSD1.out.below hb11 (Nat.le_refl _)).more zw11) ((HSD2.out.below hb11 (Nat.le_refl _)).more zw11) (Nat.le_refl _) h1m h1m)
            have HB11 : Hid (Below wc.heap.size wc w11) := HBA.out.trans (hb11.mono HBA.out.size)
            clear hb11 a0 a1 a2 a3 b0 b1 b2 b3
            have a0 := HX11.out.cell 0; have a1 := HX11.out.cell 1; have a2 := HX11.out.cell 2; have a3 := HX11.out.cell 3
            have b0 := HZ11.out.cell 0; have b1 := HZ11.out.cell 1; have b2 := HZ11.out.cell 2; have b3 := HZ11.out.cell 3
            simp at a0 a1 a2 a3 b0 b1 b2 b3
            go_wp2_with fail
            refine HR2.out.mono ?_
            rintro e w12 ⟨rfl, hb12⟩
            have HB12 : Hid (Below wc.heap.size wc w12) := HB11.out.trans (hb12.mono HB11.out.size)
            clear hb12 a0 a1 a2 a3 b0 b1 b2 b3
            have HX12 := Lib.hid (HKc.out.below HB12.out (by omega))
            have HG12 := Lib.hid (HGc.out.below HB12.out (by omega))
            have HS12 : Hid (Sl w12 wc.heap.size 2 A2 n2 (flat flC out)) := HSc2.out.below HB12.out (Nat.le_refl _)
            have zw12 := HB12.out.size
            have a3 := HX12.out.cell 3; have a4 := (HX12.out.alloc (.cells #[] 51)).cell 3
            simp at a3 a4
            have hn2p : n2 ≠ 0 := fun e => by rw [e] at hn0; simp at hn0
            obtain ⟨q, hq⟩ : ∃ q, zn % n2 = q := ⟨_, rfl⟩
            have hqn : q < n2 := by rw [← hq]; exact Nat.mod_lt _ (by omega)
            have hmod : (zn : Int).tmod (n2 : Int) = (q : Int) := by rw [← hq]; rfl
            have hn0c : ¬ (n2 : Int) = 0 := by omega
            have hzw : IntKind.i64.wrap (zn : Int) = (zn : Int) := wrap_small' (by omega) (by omega)
            have hqz : (q : Int) < (n2 : Int) := by omega
            obtain ⟨fq, hfq⟩ : ∃ fq, out[q]? = some fq := ⟨out[q]'(by have := HOL.out; omega), List.getElem?_eq_getElem _⟩
            have HFQ := Lib.hid hfq
            clear hq hfq
            go_wp2_with (at_builtin; refine halt_app' (.tmp 194) (.tmp 196) 40 rfl ?_)
            refine unhalt ?_
            refine wpList_append_apd (base := w12.heap.size) (size := 2) _ rfl (.tmp 194) (.tmp 196) 40 rfl 51 i1 _ 32 Tryd.underlying40 Hj.out Hy0.out Hy1.out Hy2.out rfl (by decide) _ 0 0 [] rfl (.inr ⟨rfl, rfl, rfl⟩) wc.heap.size A2 n2 c2 (flat flC out) rfl ?nw_1 (HOC.out out) ?m1_1 ?m2_1 ?m3_1 ?_
            case nw_1 => exact HS12.out.below ((Below.refl _ w12).alloc (Nat.le_refl _) _) zw12
            case m1_1 => unfold maxLen; omega
            case m2_1 => omega
            case m3_1 => simp
            intro A13 c13 w13 ho13 hb13 hn13 hm13 hok13
            rw [List.nil_append, Nat.zero_add] at ho13
            obtain ⟨g, rfl, hg, hset⟩ := own_put (ho13.resolve_right (fun h => hn2p h.1)) hn2p
            have HSET := Lib.hid hset
            have HB13 : Hid (Below w12.heap.size w12 w13) := ((Below.refl _ w12).alloc (Nat.le_refl _) (.cells #[] 51)).trans hb13
            have zw13 := HB13.out.size
            have hfl : (flat flC out).length = n2 * 2 := HS12.out.1
            have hjl : q * 2 + 1 < (flat flC out).length := by omega
            have e1 : (flat flC out)[q * 2 + 1]? = some (.string fq.2) := by
              have hj : ∀ (l : List Fl) (k : Nat) (f : Fl), l[k]? = some f → (flat flC l)[k * 2 + 1]? = some (.string f.2) := by
                intro l
                induction l with
                | nil => intro k f h; simp at h
                | cons a l ih =>
                  intro k f h
                  cases k with
                  | zero => simp at h; subst h; simp [flat, flC]
                  | succ k =>
                    have e : (k + 1) * 2 + 1 = (k * 2 + 1) + 1 + 1 := by omega
                    have := ih k f (by simpa using h)
                    simp only [flat] at this
                    simp [flat, flC, e, this]
              exact hj out q fq HFQ.out
            have s1 := (HSET.out (q * 2 + 1) (.string (fq.2 ++ xW)) hjl).1
            have s2 := (HSET.out (q * 2 + 1) (.string (fq.2 ++ xW)) hjl).2.1
            rw [e1] at s1
            have hfs2 : fq.2.size ≤ 65536 := (HOS.out fq (List.mem_of_getElem? HFQ.out)).2
            have hcat : ¬ (9223372036854775807 < fq.2.size + (⟨#[120]⟩ : ByteArray).size) := by
              have : (⟨#[120]⟩ : ByteArray).size = 1 := rfl
              omega
            obtain ⟨W14, hW14⟩ : ∃ W14, w13.setCell ⟨g, q * 2 + 1, none⟩ (.string (fq.2 ++ ⟨#[120]⟩)) = W14 := ⟨_, rfl⟩
            have zW14 : W14.heap.size = w13.heap.size := by rw [← hW14]; exact set_size' _ _ _
            have HB14 : Hid (Below w12.heap.size w12 W14) := by rw [← hW14]; exact HB13.out.setCell (p := ⟨g, q * 2 + 1, none⟩) hg _
            have HS14' : Hid (Sl W14 W14.heap.size 2 (some ⟨g, 0, none⟩) n2 (flat flC (out.set q (fq.1, fq.2 ++ xW)))) := by
              have h := (HSET.out (q * 2 + 1) (.string (fq.2 ++ xW)) hjl).2.2
              rw [← flat_set out q fq _ HFQ.out] at h
              rw [zW14, ← hW14]; exact h
            have HBw14 : Hid (Below wc.heap.size wc W14) := HB12.out.trans (HB14.out.mono zw12)
            have HBo14 : Hid (Below w.heap.size w W14) := HBc.out.trans (HBw14.out.mono HBc.out.size)
            have HM22 := Lib.hid (make_any A n c W14.heap.size ts l k (some ⟨g, 0, none⟩) n2 c13 (out.set q (fq.1, fq.2 ++ xW)) W14 ((H0.out.below HBo14.out (Nat.le_refl _)).more HBo14.out.size) (fun t ht => by
              have h := (HOK.out t ht).below HBo14.out (Nat.le_refl _)
              exact ⟨h.d.more HBo14.out.size, h.dle, h.dmax, h.v.more HBo14.out.size, h.vle, h.vmax, h.ls, h.ds, h.vs⟩) (Nat.le_refl _) hnc hcm HLS.out HS14'.out (by omega) (fun f hf => by
              rcases List.mem_or_eq_of_mem_set hf with h | rfl
              · exact ⟨(HOS.out f h).1, by have := (HOS.out f h).2; unfold maxLen; omega⟩
              · refine ⟨(HOS.out fq (List.mem_of_getElem? HFQ.out)).1, ?_⟩
                have : xW.size = 1 := rfl
                simp
                unfold maxLen; omega))
            have cg := (HGc.out.below HBw14.out (by omega)).cell 0
            simp at cg
            rw [← hW14] at cg
            have HW14 := Lib.hid hW14
            clear ho13 hb13 hn13 hok13 hset e1 a3 a4 hW14
            go_wp2_with fail
            rw [HW14.out]
            refine HM22.out.mono ?_
            rintro e w15 ⟨k15, l15, D1, r1, g1, D2, r2, g2, out15, err15, rfl, ⟨hk15, hl15, hs151, hs152⟩, _, _, hr2, hg2, hmr15, hb15⟩
            obtain ⟨rfl, rfl⟩ := (HMR.out.self (set_names HFQ.out) (fun f hf => by
              rcases List.mem_or_eq_of_mem_set hf with h | rfl
              · exact (HOS.out f h).2
              · obtain ⟨f0, hf0, he0⟩ := lookF_mem2 (HZ.out.2 fq (List.mem_of_getElem? HFQ.out)).1
                have h1 := HFSM.out f0 hf0
                have : xW.size = 1 := rfl
                simp only [ByteArray.size_append]
                rw [← he0]; omega)).same hmr15
            obtain ⟨W15, hW15⟩ : ∃ W15, w15.alloc (.cells #[.int .i64 k15, .string l15, .slice D1 r1 g1, .slice D2 r2 g2] 46) = W15 := ⟨_, rfl⟩
            have hbw15 : Below w15.heap.size w15 W15 := by rw [← hW15]; exact (Below.refl _ w15).alloc (Nat.le_refl _) _
            have zW15 : W15.heap.size = w15.heap.size + 1 := by rw [← hW15]; simp
            have zw15 := hb15.size
            have HB15 : Hid (Below W14.heap.size W14 W15) := hb15.trans (hbw15.mono zw15)
            have HK15 : Hid (Bk W15 w15.heap.size 46 #[.int .i64 k15, .string l15, .slice D1 r1 g1, .slice D2 r2 g2]) := by rw [← hW15]; exact Bk.new w15 _ _
            have HBw15 : Hid (Below wc.heap.size wc W15) := HBw14.out.trans (HB15.out.mono HBw14.out.size)
            have HX15 := Lib.hid (HKc.out.below HBw15.out (by omega))
            have HSF := Lib.hid (sameF_any D2 A2 r2 g2 n2 c2 W15.heap.size (out.set q (fq.1, fq.2 ++ xW)) out W15 ((hs152.below hbw15 (Nat.le_refl _)).more (by omega)) ((HSc2.out.below HBw15.out (Nat.le_refl _)).more HBw15.out.size) (Nat.le_trans hr2 hg2))
            rw [decide_eq_false (set_ne HFQ.out)] at HSF
            have HW15 := Lib.hid hW15
            have HBo15 : Hid (Below w.heap.size w W15) := HBc.out.trans (HBw15.out.mono HBc.out.size)
            have a3 := HX15.out.cell 3; have b2 := HK15.out.cell 3
            simp at a3 b2
            rw [← HW15.out] at a3 b2
            clear hmr15 hs151 hs152 hb15 hbw15 hk15 hl15 hW15 cg HM22 s1 s2
            go_wp2_with fail
            rw [HW15.out]
            refine HSF.out.mono ?_
            rintro e w16 ⟨rfl, nq, rfl⟩
            have HB16 : Hid (Below w.heap.size w (W15.drewN nq)) := below_drewN HBo15.out nq
            go_wp2_with fail
            refine (awake_any _).mono ?_
            rintro e wz ⟨rfl, hbz⟩
            have HBz := Lib.hid (HB16.out.trans (hbz.mono HB16.out.size)); clear hbz
            go_wp2_with fail
            go_ret
            exact ⟨rfl, HBz.out⟩
end Go.Proofs.YtiphbincnnppdaaDoor

namespace Go.Proofs.YtiphbincnnppdaaDoor
open Go.ChangeShapes Go.WideShapes Go.ChangeAt Go.RowKit Go.Joins Go.Deep

section
variable {H : Type} {enc : TypeId × Value → H} {W : World} {base : Nat} {v : Value} {d : DataW H} {p : List MemPlace} {r : Reach} {b0 : Nat} {sp : Nat → Bool} {held : Bool}
theorem wf_u8 {n : Int} (h : (Lit.int .u8 n).wf = true) : 0 ≤ n ∧ n < 256 := by
  simp only [Lit.wf, Bool.and_eq_true, decide_eq_true_eq] at h
  have h1 : IntKind.u8.min = 0 := by decide
  have h2 : IntKind.u8.max = 255 := by decide
  rw [h1, h2] at h
  omega
set_option maxRecDepth 100000 in
theorem open_u8 (hv : Value.okWide Tryd.prog W r b0 5 v) (h : DataW.Trod enc Tryd.prog W base sp held 5 v d p) : ∃ z : Nat, v = .int .u8 (z : Int) ∧ z < 256 := by
  obtain ⟨s, rfl⟩ := okWide_int Tryd.underlying5 hv
  obtain ⟨fuel, hf⟩ := h
  obtain ⟨a, ha, _, wa⟩ := DataW.trod_int Tryd.underlying5 hf
  have e1 : [Value.int .u8 s] = [Value.int .u8 a] := ha
  simp at e1
  have := wf_u8 wa
  exact ⟨s.toNat, by rw [Int.toNat_of_nonneg (by omega)], by omega⟩
end
section
variable {H : Type} {enc : TypeId × Value → H} {P : Program} {w : World} {base : Nat} {spare : Nat → Bool} {held : Bool}
theorem trodAll_six {t0 t1 t2 t3 t4 t5 : TypeId} {args : Array Value} {ds : List (DataW H)} {ps : List MemPlace} (h : DataW.TrodAll enc P w base spare held [t0, t1, t2, t3, t4, t5] args.toList ds ps) :
    ∃ v0 v1 v2 v3 v4 v5 d0 d1 d2 d3 d4 d5 p0 p1 p2 p3 p4 p5, args = #[v0, v1, v2, v3, v4, v5] ∧ ds = [d0, d1, d2, d3, d4, d5] ∧ ps = p0 ++ (p1 ++ (p2 ++ (p3 ++ (p4 ++ p5)))) ∧ DataW.Trod enc P w base spare held t0 v0 d0 p0 ∧ DataW.Trod enc P w base spare held t1 v1 d1 p1 ∧
      DataW.Trod enc P w base spare held t2 v2 d2 p2 ∧ DataW.Trod enc P w base spare held t3 v3 d3 p3 ∧ DataW.Trod enc P w base spare held t4 v4 d4 p4 ∧ DataW.Trod enc P w base spare held t5 v5 d5 p5 := by
  obtain ⟨v0, vs0, d0, ds0, p0, q0, hargs, rfl, rfl, h0, r0⟩ := trodAll_cons h
  obtain ⟨v1, vs1, d1, ds1, p1, q1, rfl, rfl, rfl, h1, r1⟩ := trodAll_cons r0
  obtain ⟨v2, vs2, d2, ds2, p2, q2, rfl, rfl, rfl, h2, r2⟩ := trodAll_cons r1
  obtain ⟨v3, vs3, d3, ds3, p3, q3, rfl, rfl, rfl, h3, r3⟩ := trodAll_cons r2
  obtain ⟨v4, vs4, d4, ds4, p4, q4, rfl, rfl, rfl, h4, r4⟩ := trodAll_cons r3
  obtain ⟨v5, vs5, d5, ds5, p5, q5, rfl, rfl, rfl, h5, r5⟩ := trodAll_cons r4
  obtain ⟨rfl, rfl, rfl⟩ := trodAll_nil r5
  exact ⟨v0, v1, v2, v3, v4, v5, d0, d1, d2, d3, d4, d5, p0, p1, p2, p3, p4, p5, by cases args; simp_all, rfl, by simp, h0, h1, h2, h3, h4, h5⟩
theorem trodAll_mk6 {t0 t1 t2 t3 t4 t5 : TypeId} {v0 v1 v2 v3 v4 v5 : Value} {d0 d1 d2 d3 d4 d5 : DataW H} {p0 p1 p2 p3 p4 p5 : List MemPlace} (h0 : DataW.Trod enc P w base spare held t0 v0 d0 p0) (h1 : DataW.Trod enc P w base spare held t1 v1 d1 p1) (h2 : DataW.Trod enc P w base spare held t2 v2 d2 p2)
    (h3 : DataW.Trod enc P w base spare held t3 v3 d3 p3) (h4 : DataW.Trod enc P w base spare held t4 v4 d4 p4) (h5 : DataW.Trod enc P w base spare held t5 v5 d5 p5) : DataW.TrodAll enc P w base spare held [t0, t1, t2, t3, t4, t5] [v0, v1, v2, v3, v4, v5] [d0, d1, d2, d3, d4, d5] (p0 ++ (p1 ++ (p2 ++ (p3 ++ (p4 ++ p5))))) :=
  ⟨p0, p1 ++ (p2 ++ (p3 ++ (p4 ++ p5))), h0, ⟨p1, p2 ++ (p3 ++ (p4 ++ p5)), h1, trodAll_mk4 h2 h3 h4 h5, rfl⟩, rfl⟩
end
end Go.Proofs.YtiphbincnnppdaaDoor
