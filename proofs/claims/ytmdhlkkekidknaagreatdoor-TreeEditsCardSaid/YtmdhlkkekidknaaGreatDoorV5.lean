/-
  Lemmas: The reference's find and insert on pools. A region that draws its order, whose operations read or add to memory but for ONE, the m-th, which turns it (an append onto a row of one's own): whatever the order, each operation's value keeps its word. As in StabG. Drawn regions, one of whose operations makes a box. The program's writer of digests, and object.Encode on valid objects. The program's writer of objects: number, string, digest, beside a block x that is left alone.
-/
import Derived.Test.YtmdhlkkekidknaaGreatDoorV4
import Derived.Test.YtmdhlkkekidknaaGreatDoorV3
import Derived.Test.YtmdhlkkekidknaaGreatDoorV1

namespace Go.Proofs.YtmdhlkkekidknaaGreatDoor
open Go.RowKit

def fiD (p : List Itm) (d : Dig) : Int := if (findP p d).isSome = true then (atD p d : Nat) else -1
theorem atD_at {p : List Itm} (ha : AscI p) {k : Nat} {x : Itm} (hx : p[k]? = some x) : atD p x.1 = k := by
  rcases Nat.lt_trichotomy k (atD p x.1) with h | h | h
  · exact absurd (atD_below ha hx h) (ltD_irrefl _)
  · exact h.symm
  · have hl := (List.getElem?_eq_some_iff.1 hx).1
    have hy : p[atD p x.1]? = some (p[atD p x.1]'(by omega)) := List.getElem?_eq_getElem _
    have h1 := atD_above ha hy (Nat.le_refl _)
    have ha' := ha
    unfold AscI at ha'
    rw [List.pairwise_iff_getElem] at ha'
    have h2 := ha' (atD p x.1) k (by omega) hl h
    rw [(List.getElem?_eq_some_iff.1 hx).2] at h2
    exact absurd h2 h1
theorem fiD_at {p : List Itm} (ha : AscI p) {k : Nat} {x : Itm} (hx : p[k]? = some x) : fiD p x.1 = (k : Int) := by
  unfold fiD
  rw [(findP_some ha (d := x.1) (b := x.2)).2 (List.mem_of_getElem? hx), atD_at ha hx]; rfl
theorem fiD_no {p : List Itm} (ha : AscI p) {d : Dig} (h : ∀ y ∈ p, y.1 ≠ d) : fiD p d = -1 := by
  unfold fiD
  rw [(findP_none ha).2 (fun b hb => h _ hb rfl)]; rfl
def FiE (p : List Itm) (d : Dig) (w : World) (e : Ending) (w' : World) : Prop := e = .returned (.int .i64 (fiD p d)) ∧ Below w.heap.size w w'
set_option maxRecDepth 100000 in
set_option maxHeartbeats 4000000 in
theorem find8_any (A : Option Addr) (n c B : Nat) (p : List Itm) (d : Dig) (w : World) (h0 : Sl w B 3 A n (flat itC p)) (hB : B ≤ w.heap.size) (hn : n ≤ 1000000) (ha : AscI p) :
    Calls Tryz.prog 118 #[.slice A n c, digV d] w (FiE p d w) := by
  have HL0 := Lib.hid (h0.len itC_len (by omega))
  have HA := Lib.hid ha; clear ha
  obtain ⟨d1, d2⟩ := d
  obtain ⟨W, hW⟩ : ∃ W, w.alloc (.cells #[.int .u64 d1, .int .u64 d2] 30) = W := ⟨_, rfl⟩
  have HB0 : Hid (Below w.heap.size w W) := by rw [← hW]; exact (Below.refl _ w).alloc (Nat.le_refl _) _
  have HK : Hid (Bk W w.heap.size 30 #[.int .u64 d1, .int .u64 d2]) := by rw [← hW]; exact Bk.new w _ _
  have H0 : Hid (Sl W B 3 A n (flat itC p)) := h0.below HB0.out hB
  have zw : w.heap.size < W.heap.size := HK.out.lt
  clear h0
  simp only [digV]
  go_enter Tryz.func118, Tryz.ntmps118
  go_wp2_with fail
  clear hW
  go_loopw [5] (fun i wr => ∃ k : Nat, k ≤ n ∧ i = .int .i64 (k : Int) ∧ Hid (∀ y ∈ p.take k, y.1 ≠ (d1, d2)) ∧ Hid (Below W.heap.size W wr)) (fun i _ => n - (intOf i).toNat)
  case atStart => exact ⟨0, Nat.zero_le _, rfl, (fun y hy => by rw [List.take_zero] at hy; cases hy), Below.refl _ _⟩
  case round =>
    obtain ⟨k, hk, rfl, hN, hBel⟩ := hrel
    by_cases hlt : k < n
    · have hlz : (k : Int) < (n : Int) := by omega
      obtain ⟨b, off, x, rfl, hb, hx, y0, y1, y2⟩ := (H0.out.below hBel.out (by omega)).it hlt
      have HX := Lib.hid hx
      obtain ⟨g0, g1, _, _⟩ := (HK.out.below hBel.out zw).two
      have HBE := Lib.hid hBel.out
      clear hx hBel
      obtain ⟨⟨x1, x2⟩, xs⟩ := x
      simp only at y0 y1 y2
      by_cases he : x1 = d1 ∧ x2 = d2
      · obtain ⟨rfl, rfl⟩ := he
        have hgf : (x1 == x1 && x2 == x2) = true := by simp
        have HF : Hid (fiD p (x1, x2) = (k : Int)) := fiD_at HA.out HX.out
        go_wp2_with fail
        go_quiet (fail)
        go_wp2_with fail
        go_ret
        exact ⟨by rw [HF.out]; rfl, HB0.out.trans (below_drewN (HBE.out.mono (by omega)) _)⟩
      · have hgf : (x1 == d1 && x2 == d2) = false := by
          rw [Bool.eq_false_iff]; intro h
          rw [Bool.and_eq_true, beq_iff_eq, beq_iff_eq] at h
          exact he h
        have HN : Hid (∀ y ∈ p.take (k + 1), y.1 ≠ (d1, d2)) := fun y hy => by
          rw [take_snoc HX.out] at hy
          rcases List.mem_append.1 hy with hy | hy
          · exact hN.out y hy
          · rw [List.mem_singleton.1 hy]
            intro h; injection h with h1 h2; exact he ⟨h1, h2⟩
        clear he hN
        go_wp2_with fail
        go_quiet (fail)
        go_wp2_with fail
        go_roundw
        case rel => exact ⟨k + 1, hlt, by go_num, HN.out, below_drewN HBE.out _⟩
        case measure => simp [intOf]; omega
    · have hlz : ¬ (k : Int) < (n : Int) := by omega
      have HF : Hid (fiD p (d1, d2) = -1) := fiD_no HA.out (fun y hy => hN.out y (by rw [List.take_of_length_le (by rw [HL0.out]; omega)]; exact hy))
      have HBE := Lib.hid hBel.out
      clear hN hBel
      go_wp2_with fail
      go_ret
      exact ⟨by rw [HF.out]; rfl, HB0.out.trans (HBE.out.mono (by omega))⟩
def EmS (v : Value) (_ : World) : Prop := ∃ b0, v = .slice (some ⟨b0, 0, none⟩) 0 0
def ApS (base m : Nat) (q : List Itm) (v : Value) (W : World) : Prop := ∃ A c, v = .slice A m c ∧ Apd W base 38 3 A m c (flat itC q)
theorem ApS.keep {base m : Nat} {q : List Itm} {v : Value} {W W' : World} (h : ApS base m q v W) (hb : Below W.heap.size W W') : ApS base m q v W' := by
  obtain ⟨A, c, h1, h2⟩ := h
  exact ⟨A, c, h1, h2.below hb⟩
set_option maxRecDepth 100000 in
set_option maxHeartbeats 8000000 in
theorem insert8_any (A : Option Addr) (n c B : Nat) (p : List Itm) (x : Itm) (w : World) (h0 : Sl w B 3 A n (flat itC p)) (hB : B ≤ w.heap.size) (hnc : n ≤ c) (hcm : c ≤ maxLen) (hn : n ≤ 900000) (ha : AscI p) :
    Calls Tryz.prog 132 #[.slice A n c, itV x] w (InpE A c p x w) := by
  have HL := Lib.hid (h0.len itC_len (by omega))
  have HAS := Lib.hid ha; have HCM := Lib.hid hcm; have HNC := Lib.hid hnc
  obtain ⟨⟨d1, d2⟩, s⟩ := x
  obtain ⟨W, hW⟩ : ∃ W, w.alloc (.cells #[.int .u64 d1, .int .u64 d2, .string s] 38) = W := ⟨_, rfl⟩
  have HB0 : Hid (Below w.heap.size w W) := by rw [← hW]; exact (Below.refl _ w).alloc (Nat.le_refl _) _
  have HK : Hid (Bk W w.heap.size 38 #[.int .u64 d1, .int .u64 d2, .string s]) := by rw [← hW]; exact Bk.new w _ _
  have zk : w.heap.size < W.heap.size := HK.out.lt
  have HC := Lib.hid (find8_any A n c B p (d1, d2) W (h0.below HB0.out hB) (Nat.le_trans hB HB0.out.size) (by omega) ha)
  have H0 := Lib.hid h0
  clear h0 ha hcm
  unfold FiE at HC
  simp only [digV, itV] at HC ⊢
  obtain ⟨x0, x1, x2⟩ := HK.out.three
  obtain ⟨m, hm⟩ : ∃ m, atD p (d1, d2) = m := ⟨_, rfl⟩
  have HM := Lib.hid hm
  have hmn : m ≤ n := by rw [← hm, ← HL.out]; exact atD_le _ _
  cases hf : findP p (d1, d2) with
  | some b =>
    obtain ⟨i, hi, hib, hil⟩ := find_at hf
    rw [hm] at hi hil
    have hlt : m < n := by rw [← HL.out]; exact hil
    have HNN : Hid (insP p ((d1, d2), s) = if b = s then some p else none) := by
      show _ = _
      unfold insP; simp only [hf]
    have hfi : fiD p (d1, d2) = (m : Int) := by unfold fiD; rw [hf, hm]; rfl
    rw [hfi] at HC
    clear hf hm hil hfi
    go_enter Tryz.func132, Tryz.ntmps132
    go_wp2_with fail
    refine HC.out.mono ?_
    rintro e w2 ⟨rfl, hb⟩
    have HB2 : Hid (Below w.heap.size w w2) := HB0.out.trans (hb.mono (Nat.le_of_lt zk))
    have HK2 := Lib.hid (HK.out.below hb zk)
    have HS2 := Lib.hid (H0.out.below HB2.out hB)
    obtain ⟨bb, off, i', rfl, hbB, hx, y0, y1, y2⟩ := HS2.out.it hlt
    rw [hi] at hx
    obtain rfl := Option.some.inj hx
    rw [hib] at y2
    obtain ⟨k0, k1, k2⟩ := HK2.out.three
    have hB2 : B ≤ w2.heap.size := by have := HB2.out.size; omega
    have hmn' : (m : Int) < (n : Int) := by omega
    clear hb HC x0 x1 x2 hW hi hx
    have t2 := str_dec b s
    by_cases hbs : b = s
    · have HN : Hid (insP p ((d1, d2), s) = some p) := by show _ = _; rw [HNN.out, if_pos hbs]
      have l1 : (b.toList != s.toList) = !(decide (b = s)) := by rw [← str_dec]; rfl
      rw [decide_eq_true hbs] at t2 l1
      clear hbs
      go_wp2_with fail
      go_quiet (fail)
      go_wp2_with fail
      go_ret2
      exact ⟨.inl ⟨p, some ⟨bb, off, none⟩, c, HN.out, by rw [HL.out]; rfl, by rw [HL.out]; exact HS2.out.more hB2, by rw [HL.out]; exact HNC.out, HCM.out, .inl ⟨rfl, rfl, rfl⟩⟩, below_drewN HB2.out _⟩
    · have HN : Hid (insP p ((d1, d2), s) = none) := by show _ = _; rw [HNN.out, if_neg hbs]
      have l1 : (b.toList != s.toList) = !(decide (b = s)) := by rw [← str_dec]; rfl
      rw [decide_eq_false hbs] at t2 l1
      clear hbs
      go_wp2_with fail
      go_quiet (fail)
      go_wp2_with fail
      go_ret2
      exact ⟨.inr ⟨HN.out, rfl⟩, below_drewN HB2.out _⟩
  | none =>
    have HN : Hid (insP p ((d1, d2), s) = some (p.take m ++ [((d1, d2), s)] ++ p.drop m)) := by
      show _ = _
      unfold insP; simp only [hf, HM.out]
    have HQ : Hid ((p.take m ++ [((d1, d2), s)] ++ p.drop m).length = m + 1 + (n - m)) := by
      show _ = _
      rw [List.length_append, List.length_append, List.length_take, List.length_drop, HL.out, Nat.min_eq_left hmn]; rfl
    have hfi : fiD p (d1, d2) = -1 := by unfold fiD; rw [hf]; rfl
    rw [hfi] at HC
    obtain ⟨i0, hi, hz0, hz1, hz2⟩ := info_parts infoIt
    have tk := run_slice_to (P := Tryz.prog) 23 i0 Tryz.underlying23 hi A n c m (by omega)
    obtain ⟨Ak, hAr, hAk⟩ := run_slice_from (P := Tryz.prog) 23 i0 Tryz.underlying23 hi hz1 A n c m hmn hnc
    have HAk := Lib.hid hAk; have HAr := Lib.hid hAr; have HTK := Lib.hid tk
    have Hi := Lib.hid hi; have Hz0 := Lib.hid hz0; have Hz1 := Lib.hid hz1; have Hz2 := Lib.hid hz2
    clear hf hm hi hz0 hz1 hz2 hAk hAr tk hfi
    go_enter Tryz.func132, Tryz.ntmps132
    go_wp2_with fail
    refine HC.out.mono ?_
    rintro e w2 ⟨rfl, hb⟩
    have HB2 : Hid (Below w.heap.size w w2) := HB0.out.trans (hb.mono (Nat.le_of_lt zk))
    have HK2 := Lib.hid (HK.out.below hb zk)
    have zw2 : w.heap.size < w2.heap.size := Nat.lt_of_lt_of_le zk hb.size
    have HS2 := Lib.hid (H0.out.below HB2.out hB)
    have hB2 : B ≤ w2.heap.size := by omega
    clear hb HC x0 x1 x2 hW
    go_wp2_with fail
    go_loopw [7] (fun i wr => ∃ k : Nat, k ≤ m ∧ i = .int .i64 (k : Int) ∧ Hid (Below w2.heap.size w2 wr)) (fun i _ => m - (intOf i).toNat)
    case atStart => exact ⟨0, Nat.zero_le _, rfl, Below.refl _ _⟩
    case round =>
      obtain ⟨k, hk, rfl, hBel⟩ := hrel
      obtain ⟨k0, k1, k2⟩ := (HK2.out.below hBel.out zw2).three
      by_cases hlt : k < n
      · have hlz : (k : Int) < (n : Int) := by omega
        obtain ⟨b, off, x, rfl, hbB, hx, y0, y1, y2⟩ := (HS2.out.below hBel.out hB2).it hlt
        have HX := Lib.hid hx
        have HBE := Lib.hid hBel.out
        have zr : w2.heap.size ≤ wr.heap.size := hBel.out.size
        clear hx hBel
        obtain ⟨⟨x1, x2⟩, xs⟩ := x
        simp only at y0 y1 y2
        have HCM := Lib.hid (fun W => dcmp2_any (x1, x2) (d1, d2) W)
        unfold CmE at HCM
        simp only [digV] at HCM
        obtain ⟨cz, hcz⟩ : ∃ cz, cmpD (x1, x2) (d1, d2) = cz := ⟨_, rfl⟩
        rw [hcz] at HCM
        have HCZ := Lib.hid hcz
        clear hcz
        by_cases hkm : k < m
        · have hc : cz < 0 := by rw [← HCZ.out, cmpD_lt]; exact atD_below HAS.out HX.out (by rw [HM.out]; exact hkm)
          go_wp2_with fail
          go_region_held3 (fun w' => w'.cell? ⟨b, off + k * 3, none⟩ = some (.int .u64 x1) ∧ w'.cell? ⟨b, off + k * 3 + 1, none⟩ = some (.int .u64 x2) ∧ w'.cell? ⟨w.heap.size, 0, none⟩ = some (.int .u64 d1) ∧ w'.cell? ⟨w.heap.size, 1, none⟩ = some (.int .u64 d2))
            (first | exact ⟨y0, y1, k0, k1⟩ | exact ⟨n0.out, n1.out, n2.out, n3.out⟩)
            (first
              | (go_at_call 86; refine (HCM.out _).mono ?_; rintro e w8 ⟨rfl, hb8⟩
                 have n0 := Lib.hid ((hb8.cell (p := ⟨b, off + k * 3, none⟩) (by show b < _; simp; omega)).trans y0); have n1 := Lib.hid ((hb8.cell (p := ⟨b, off + k * 3 + 1, none⟩) (by show b < _; simp; omega)).trans y1); have n2 := Lib.hid ((hb8.cell (p := ⟨w.heap.size, 0, none⟩) (by show w.heap.size < _; simp; omega)).trans k0); have n3 := Lib.hid ((hb8.cell (p := ⟨w.heap.size, 1, none⟩) (by show w.heap.size < _; simp; omega)).trans k1)
                 have hR8 : Hid (Below wr.heap.size wr w8) := (Below.refl _ wr).drew.trans hb8
                 clear hb8))
          have HB9 : Hid (Below w2.heap.size w2 w8) := HBE.out.trans (hR8.out.mono zr)
          clear n0 n1 n2 n3 y0 y1 y2 k0 k1 k2 hR8
          go_wp2_with fail
          go_roundw
          case rel => exact ⟨k + 1, by omega, by go_num, HB9.out⟩
          case measure => simp [intOf]; omega
        · have hkm' : k = m := by omega
          subst hkm'
          have hc : ¬ cz < 0 := by rw [← HCZ.out, cmpD_lt]; exact atD_above HAS.out HX.out (by rw [HM.out]; exact Nat.le_refl _)
          go_wp2_with fail
          go_region_held3 (fun w' => w'.cell? ⟨b, off + k * 3, none⟩ = some (.int .u64 x1) ∧ w'.cell? ⟨b, off + k * 3 + 1, none⟩ = some (.int .u64 x2) ∧ w'.cell? ⟨w.heap.size, 0, none⟩ = some (.int .u64 d1) ∧ w'.cell? ⟨w.heap.size, 1, none⟩ = some (.int .u64 d2))
            (first | exact ⟨y0, y1, k0, k1⟩ | exact ⟨n0.out, n1.out, n2.out, n3.out⟩)
            (first
              | (go_at_call 86; refine (HCM.out _).mono ?_; rintro e w8 ⟨rfl, hb8⟩
                 have n0 := Lib.hid ((hb8.cell (p := ⟨b, off + k * 3, none⟩) (by show b < _; simp; omega)).trans y0); have n1 := Lib.hid ((hb8.cell (p := ⟨b, off + k * 3 + 1, none⟩) (by show b < _; simp; omega)).trans y1); have n2 := Lib.hid ((hb8.cell (p := ⟨w.heap.size, 0, none⟩) (by show w.heap.size < _; simp; omega)).trans k0); have n3 := Lib.hid ((hb8.cell (p := ⟨w.heap.size, 1, none⟩) (by show w.heap.size < _; simp; omega)).trans k1)
                 have hR8 : Hid (Below wr.heap.size wr w8) := (Below.refl _ wr).drew.trans hb8
                 clear hb8))
          have HB9 : Hid (Below w2.heap.size w2 w8) := HBE.out.trans (hR8.out.mono zr)
          clear n0 n1 n2 n3 y0 y1 y2 k0 k1 k2 hR8 HBE zr
          obtain ⟨w2b, hw2b⟩ : ∃ u, u = w8 := ⟨_, rfl⟩
          subst hw2b
          have zq : w.heap.size < w2b.heap.size := Nat.lt_of_lt_of_le zw2 HB9.out.size
          have hB9 : B ≤ w2b.heap.size := by have := HB9.out.size; omega
          have HS9 : Hid (Sl w2b B 3 (some ⟨b, off, none⟩) n (flat itC p)) := HS2.out.below HB9.out hB2
          obtain ⟨k0, k1, k2⟩ := (HK2.out.below HB9.out zw2).three
          have tk := HTK.out
          have HSP : Hid (∀ x ∈ [(0, EmS), (4, ApS w2b.heap.size k (p.take k)), (6, SlI ((d1, d2), s))], ∀ v W W', x.2 v W → Below W.heap.size W W' → x.2 v W') := fun x hx v W W' h hb => by
            simp only [List.mem_cons, List.not_mem_nil, or_false] at hx
            rcases hx with rfl | rfl | rfl
            · exact h
            · exact ApS.keep h hb
            · exact SlI.keep h hb
          go_wp2_with fail
          refine wp_region_stableGD 7 (41 :: 42 :: 43 :: 44 :: 45 :: 46 :: 47 :: []) (by kernel_rfl) (by kernel_rfl) (by kernel_rfl) (fun W => Below w2b.heap.size w2b W) (fun W W' => Below W.heap.size W W')
            (gPhi [(0, EmS), (4, ApS w2b.heap.size k (p.take k)), (6, SlI ((d1, d2), s))] ((undef) :: (.slice (some ⟨b, off, none⟩) n c) :: (.int .i64 (k : Int)) :: (.slice (some ⟨b, off, none⟩) k c) :: (undef) :: (.agg #[.int .u64 d1, .int .u64 d2, .string s]) :: (undef) :: [])) (fun W W' h1 h2 => h1.trans (h2.mono h1.size)) (fun i v W W' h hb => gPhi_keep HSP.out i v W W' h hb) (Below.refl _ _).drew ?stepA ?tailA
          case stepA =>
            intro i o vs W hi ho hv hR hphi
            obtain ⟨v0, v1, v2, v3, v4, v5, v6, rfl⟩ := ls7 hv
            simp only [List.zip, List.zipWith, putAll, Act.put, List.setIfInBounds_toArray, List.set]
            have hWz := hR.size
            have g0 := (hR.cell (p := ⟨w.heap.size, 0, none⟩) (by show w.heap.size < _; omega)).trans k0
            have g1 := (hR.cell (p := ⟨w.heap.size, 1, none⟩) (by show w.heap.size < _; omega)).trans k1
            have g2 := (hR.cell (p := ⟨w.heap.size, 2, none⟩) (by show w.heap.size < _; omega)).trans k2
            match i, hi, ho with
            | 0, _, rfl =>
              exact .inl ⟨rfl, gives_value (v := .slice (some ⟨W.heap.size, 0, none⟩) 0 0) (w' := W.alloc (.cells #[] 38)) (by go_simp) ⟨(Below.refl _ W).alloc (Nat.le_refl _) _, W.heap.size, rfl⟩⟩
            | 1, _, rfl =>
              exact .inl ⟨rfl, gives_value (v := .slice (some ⟨b, off, none⟩) n c) (w' := W) (by go_simp) ⟨Below.refl _ _, fun u hu => by cases hu; rfl⟩⟩
            | 2, _, rfl =>
              exact .inl ⟨rfl, gives_value (v := .int .i64 (k : Int)) (w' := W) (by go_simp) ⟨Below.refl _ _, fun u hu => by cases hu; rfl⟩⟩
            | 3, _, rfl =>
              have e1 : v1 = _ := hphi ⟨1, .data⟩ (by simp) rfl v1 rfl _ rfl
              have e2 : v2 = _ := hphi ⟨2, .data⟩ (by simp) rfl v2 rfl _ rfl
              subst e1 e2
              exact .inl ⟨rfl, gives_value (v := .slice (some ⟨b, off, none⟩) k c) (w' := W) (by go_simp) ⟨Below.refl _ _, fun u hu => by cases hu; rfl⟩⟩
            | 4, _, rfl =>
              obtain ⟨b0, rfl⟩ : (EmS) v0 W := hphi ⟨0, .data⟩ (by simp) rfl v0 rfl
              have e3 : v3 = _ := hphi ⟨3, .data⟩ (by simp) rfl v3 rfl _ rfl
              subst e3
              obtain ⟨A5, c5, w5, hr5, ha5, hb5, hn5, hm5⟩ := run_append_empty (P := Tryz.prog) (base := w2b.heap.size) 23 23 i0 _ 32 Tryz.underlying23 Hi.out Hz0.out Hz1.out Hz2.out rfl (by decide) (w := W) (c' := c) ((HS9.out.it_take hmn).below hR hB9) (itC_one _) (by unfold maxLen; omega) (by omega) hWz (some ⟨b0, 0, none⟩)
              exact .inl ⟨rfl, gives_append (.tmp 41) (.tmp 44) 23 rfl rfl rfl hr5 ⟨hb5, A5, c5, rfl, ha5⟩⟩
            | 5, _, rfl =>
              exact .inl ⟨rfl, gives_value (v := .agg #[.int .u64 d1, .int .u64 d2, .string s]) (w' := W) (by go_simp) ⟨Below.refl _ _, fun u hu => by cases hu; rfl⟩⟩
            | 6, _, rfl =>
              have e5 : v5 = _ := hphi ⟨5, .data⟩ (by simp) rfl v5 rfl _ rfl
              subst e5
              exact .inl ⟨rfl, gives_value (v := .slice (some ⟨W.heap.size, 0, none⟩) 1 1) (w' := W.alloc (.cells #[.int .u64 d1, .int .u64 d2, .string s] 38)) (by go_simp) ⟨(Below.refl _ W).alloc (Nat.le_refl _) _, W.heap.size, rfl, Bk.new W _ _⟩⟩
            | i + 7, hi, _ => exact absurd hi (by omega)
          case tailA =>
            intro vs W hv hR hphi
            obtain ⟨v0, v1, v2, v3, v4, v5, v6, rfl⟩ := ls7 hv
            simp only [List.zip, List.zipWith, putAll, Act.put, List.setIfInBounds_toArray, List.set, List.drop]
            have e0 : (EmS) v0 W := hphi 0 v0 rfl
            have e1 : v1 = _ := hphi 1 v1 rfl _ rfl
            have e2 : v2 = _ := hphi 2 v2 rfl _ rfl
            have e3 : v3 = _ := hphi 3 v3 rfl _ rfl
            have e4 : (ApS w2b.heap.size k (p.take k)) v4 W := hphi 4 v4 rfl
            have e5 : v5 = _ := hphi 5 v5 rfl _ rfl
            have e6 : (SlI ((d1, d2), s)) v6 W := hphi 6 v6 rfl
            subst e1 e2 e3 e5
            clear hphi hv
            obtain ⟨b0, rfl⟩ := e0
            obtain ⟨A5, c5, rfl, ha5⟩ := e4
            obtain ⟨b6, rfl, hb6⟩ := e6
            have HR := Lib.hid hR
            clear hR k0 k1 k2 tk
            refine wpList_append_apd (base := w2b.heap.size) (size := 3) _ rfl (.tmp 45) (.tmp 47) 23 rfl 38 i0 _ 32 Tryz.underlying23 Hi.out Hz0.out Hz1.out Hz2.out rfl (by decide) A5 k c5 _ rfl ha5 W.heap.size _ 1 1 _ rfl (sl_item hb6) (itC_one _) (by unfold maxLen; omega) (by omega) HR.out.size ?_
            intro A6 c6 w6 ha6 hb6' hn6 hm6 _
            have HB6 : Hid (Below w2b.heap.size w2b w6) := HR.out.trans hb6'
            rw [← flat_append] at ha6
            have HA6 := Lib.hid ha6
            have hAr := HAr.out
            clear ha5 hb6 ha6 hb6' hn6 hm6
            go_wp2_with (at_builtin; refine halt_ ?_)
            refine unhalt ?_
            refine wpList_append_apd (base := w2b.heap.size) (size := 3) _ rfl (.tmp 49) (.tmp 52) 23 rfl 38 i0 _ 32 Tryz.underlying23 Hi.out Hz0.out Hz1.out Hz2.out rfl (by decide) A6 (k + 1) c6 _ rfl HA6.out B Ak (n - k) (c - k) (flat itC (p.drop k)) rfl ?hdA (itC_one _) ?l1A ?l2A HB6.out.size ?_
            case hdA => rw [flat_drop itC_len]; exact HAk.out w6 B _ (HS9.out.below HB6.out hB9)
            case l1A => unfold maxLen; omega
            case l2A => omega
            intro A7 c7 w7 ha7 hb7 hn7 hm7 _
            rw [← flat_append] at ha7
            have HA7 := Lib.hid ha7
            have HB7 : Hid (Below w.heap.size w w7) := HB2.out.trans ((HB9.out.trans ((HB6.out.trans hb7).mono HB9.out.size)).mono (by omega))
            clear ha7 hb7 hAr
            go_wp2_with fail
            go_ret2
            exact ⟨.inl ⟨_, A7, c7, HN.out, by rw [HQ.out]; rfl, by rw [HQ.out]; exact HA7.out.sl, by rw [HQ.out]; exact hn7, hm7, .inr (by rw [HQ.out]; exact ownsRow_low (HA7.out.own (by omega)) (by omega))⟩, HB7.out⟩
      · have hlz : ¬ (k : Int) < (n : Int) := by omega
        have hkm' : k = m := by omega
        subst hkm'
        have HBE := Lib.hid hBel.out
        clear hBel k0 k1 k2
        go_wp2_with fail
        go_quiet (fail)
        obtain ⟨w2b, hw2b⟩ : ∃ u, u = wr.drewN nq := ⟨_, rfl⟩
        have HB9 : Hid (Below w2.heap.size w2 w2b) := by rw [hw2b]; exact below_drewN HBE.out _
        rw [← hw2b]
        clear hw2b HBE
        have zq : w.heap.size < w2b.heap.size := Nat.lt_of_lt_of_le zw2 HB9.out.size
        have hB9 : B ≤ w2b.heap.size := by have := HB9.out.size; omega
        have HS9 : Hid (Sl w2b B 3 A n (flat itC p)) := HS2.out.below HB9.out hB2
        obtain ⟨k0, k1, k2⟩ := (HK2.out.below HB9.out zw2).three
        have tk := HTK.out
        have HSP : Hid (∀ x ∈ [(0, EmS), (4, ApS w2b.heap.size k (p.take k)), (6, SlI ((d1, d2), s))], ∀ v W W', x.2 v W → Below W.heap.size W W' → x.2 v W') := fun x hx v W W' h hb => by
          simp only [List.mem_cons, List.not_mem_nil, or_false] at hx
          rcases hx with rfl | rfl | rfl
          · exact h
          · exact ApS.keep h hb
          · exact SlI.keep h hb
        go_wp2_with fail
        refine wp_region_stableGD 7 (41 :: 42 :: 43 :: 44 :: 45 :: 46 :: 47 :: []) (by kernel_rfl) (by kernel_rfl) (by kernel_rfl) (fun W => Below w2b.heap.size w2b W) (fun W W' => Below W.heap.size W W')
          (gPhi [(0, EmS), (4, ApS w2b.heap.size k (p.take k)), (6, SlI ((d1, d2), s))] ((undef) :: (.slice A n c) :: (.int .i64 (k : Int)) :: (.slice A k c) :: (undef) :: (.agg #[.int .u64 d1, .int .u64 d2, .string s]) :: (undef) :: [])) (fun W W' h1 h2 => h1.trans (h2.mono h1.size)) (fun i v W W' h hb => gPhi_keep HSP.out i v W W' h hb) (Below.refl _ _).drew ?stepB ?tailB
        case stepB =>
          intro i o vs W hi ho hv hR hphi
          obtain ⟨v0, v1, v2, v3, v4, v5, v6, rfl⟩ := ls7 hv
          simp only [List.zip, List.zipWith, putAll, Act.put, List.setIfInBounds_toArray, List.set]
          have hWz := hR.size
          have g0 := (hR.cell (p := ⟨w.heap.size, 0, none⟩) (by show w.heap.size < _; omega)).trans k0
          have g1 := (hR.cell (p := ⟨w.heap.size, 1, none⟩) (by show w.heap.size < _; omega)).trans k1
          have g2 := (hR.cell (p := ⟨w.heap.size, 2, none⟩) (by show w.heap.size < _; omega)).trans k2
          match i, hi, ho with
          | 0, _, rfl =>
            exact .inl ⟨rfl, gives_value (v := .slice (some ⟨W.heap.size, 0, none⟩) 0 0) (w' := W.alloc (.cells #[] 38)) (by go_simp) ⟨(Below.refl _ W).alloc (Nat.le_refl _) _, W.heap.size, rfl⟩⟩
          | 1, _, rfl =>
            exact .inl ⟨rfl, gives_value (v := .slice A n c) (w' := W) (by go_simp) ⟨Below.refl _ _, fun u hu => by cases hu; rfl⟩⟩
          | 2, _, rfl =>
            exact .inl ⟨rfl, gives_value (v := .int .i64 (k : Int)) (w' := W) (by go_simp) ⟨Below.refl _ _, fun u hu => by cases hu; rfl⟩⟩
          | 3, _, rfl =>
            have e1 : v1 = _ := hphi ⟨1, .data⟩ (by simp) rfl v1 rfl _ rfl
            have e2 : v2 = _ := hphi ⟨2, .data⟩ (by simp) rfl v2 rfl _ rfl
            subst e1 e2
            exact .inl ⟨rfl, gives_value (v := .slice A k c) (w' := W) (by go_simp) ⟨Below.refl _ _, fun u hu => by cases hu; rfl⟩⟩
          | 4, _, rfl =>
            obtain ⟨b0, rfl⟩ : (EmS) v0 W := hphi ⟨0, .data⟩ (by simp) rfl v0 rfl
            have e3 : v3 = _ := hphi ⟨3, .data⟩ (by simp) rfl v3 rfl _ rfl
            subst e3
            obtain ⟨A5, c5, w5, hr5, ha5, hb5, hn5, hm5⟩ := run_append_empty (P := Tryz.prog) (base := w2b.heap.size) 23 23 i0 _ 32 Tryz.underlying23 Hi.out Hz0.out Hz1.out Hz2.out rfl (by decide) (w := W) (c' := c) ((HS9.out.it_take hmn).below hR hB9) (itC_one _) (by unfold maxLen; omega) (by omega) hWz (some ⟨b0, 0, none⟩)
            exact .inl ⟨rfl, gives_append (.tmp 41) (.tmp 44) 23 rfl rfl rfl hr5 ⟨hb5, A5, c5, rfl, ha5⟩⟩
          | 5, _, rfl =>
            exact .inl ⟨rfl, gives_value (v := .agg #[.int .u64 d1, .int .u64 d2, .string s]) (w' := W) (by go_simp) ⟨Below.refl _ _, fun u hu => by cases hu; rfl⟩⟩
          | 6, _, rfl =>
            have e5 : v5 = _ := hphi ⟨5, .data⟩ (by simp) rfl v5 rfl _ rfl
            subst e5
            exact .inl ⟨rfl, gives_value (v := .slice (some ⟨W.heap.size, 0, none⟩) 1 1) (w' := W.alloc (.cells #[.int .u64 d1, .int .u64 d2, .string s] 38)) (by go_simp) ⟨(Below.refl _ W).alloc (Nat.le_refl _) _, W.heap.size, rfl, Bk.new W _ _⟩⟩
          | i + 7, hi, _ => exact absurd hi (by omega)
        case tailB =>
          intro vs W hv hR hphi
          obtain ⟨v0, v1, v2, v3, v4, v5, v6, rfl⟩ := ls7 hv
          simp only [List.zip, List.zipWith, putAll, Act.put, List.setIfInBounds_toArray, List.set, List.drop]
          have e0 : (EmS) v0 W := hphi 0 v0 rfl
          have e1 : v1 = _ := hphi 1 v1 rfl _ rfl
          have e2 : v2 = _ := hphi 2 v2 rfl _ rfl
          have e3 : v3 = _ := hphi 3 v3 rfl _ rfl
          have e4 : (ApS w2b.heap.size k (p.take k)) v4 W := hphi 4 v4 rfl
          have e5 : v5 = _ := hphi 5 v5 rfl _ rfl
          have e6 : (SlI ((d1, d2), s)) v6 W := hphi 6 v6 rfl
          subst e1 e2 e3 e5
          clear hphi hv
          obtain ⟨b0, rfl⟩ := e0
          obtain ⟨A5, c5, rfl, ha5⟩ := e4
          obtain ⟨b6, rfl, hb6⟩ := e6
          have HR := Lib.hid hR
          clear hR k0 k1 k2 tk
          refine wpList_append_apd (base := w2b.heap.size) (size := 3) _ rfl (.tmp 45) (.tmp 47) 23 rfl 38 i0 _ 32 Tryz.underlying23 Hi.out Hz0.out Hz1.out Hz2.out rfl (by decide) A5 k c5 _ rfl ha5 W.heap.size _ 1 1 _ rfl (sl_item hb6) (itC_one _) (by unfold maxLen; omega) (by omega) HR.out.size ?_
          intro A6 c6 w6 ha6 hb6' hn6 hm6 _
          have HB6 : Hid (Below w2b.heap.size w2b w6) := HR.out.trans hb6'
          rw [← flat_append] at ha6
          have HA6 := Lib.hid ha6
          have hAr := HAr.out
          clear ha5 hb6 ha6 hb6' hn6 hm6
          go_wp2_with (at_builtin; refine halt_ ?_)
          refine unhalt ?_
          refine wpList_append_apd (base := w2b.heap.size) (size := 3) _ rfl (.tmp 49) (.tmp 52) 23 rfl 38 i0 _ 32 Tryz.underlying23 Hi.out Hz0.out Hz1.out Hz2.out rfl (by decide) A6 (k + 1) c6 _ rfl HA6.out B Ak (n - k) (c - k) (flat itC (p.drop k)) rfl ?hdB (itC_one _) ?l1B ?l2B HB6.out.size ?_
          case hdB => rw [flat_drop itC_len]; exact HAk.out w6 B _ (HS9.out.below HB6.out hB9)
          case l1B => unfold maxLen; omega
          case l2B => omega
          intro A7 c7 w7 ha7 hb7 hn7 hm7 _
          rw [← flat_append] at ha7
          have HA7 := Lib.hid ha7
          have HB7 : Hid (Below w.heap.size w w7) := HB2.out.trans ((HB9.out.trans ((HB6.out.trans hb7).mono HB9.out.size)).mono (by omega))
          clear ha7 hb7 hAr
          go_wp2_with fail
          go_ret2
          exact ⟨.inl ⟨_, A7, c7, HN.out, by rw [HQ.out]; rfl, by rw [HQ.out]; exact HA7.out.sl, by rw [HQ.out]; exact hn7, hm7, .inr (by rw [HQ.out]; exact ownsRow_low (HA7.out.own (by omega)) (by omega))⟩, HB7.out⟩
end Go.Proofs.YtmdhlkkekidknaaGreatDoor

namespace Go.Proofs.YtmdhlkkekidknaaGreatDoor
open Go.RowKit
variable {P : Program} {Q : Exit → Act → World → Prop}

set_option maxHeartbeats 400000 in
theorem wp_region_turnG {id : Nat} {l : List Oper} {a0 : Act} {w0 : World} (n m : Nat) (hm : P.follows .mixedOrders = true) (hB : stableGB l n = true)
    (R : Bool → World → Prop) (E : Bool → World → World → Prop) (Φ : Nat → Value → World → Prop) (hR : ∀ b w w', R b w → E b w w' → R b w') (hΦ : ∀ b i v w w', (i = m → b = true) → Φ i v w → E b w w' → Φ i v w')
    (h0 : R false { w0 with drawn := w0.drawn + 1 })
    (hstep : ∀ (b : Bool) (i : Nat) (o : Oper) (vs : List Value) (w : World), i < n → i ≠ m → (∀ om, l[m]? = some om → (∃ e ∈ om.after, Region.binds .any e = true ∧ e.on = i) → b = false) → l[i]? = some o → vs.length = n → R b w → (∀ e ∈ o.after, Region.binds .any e = true → ∀ v, vs[e.on]? = some v → Φ e.on v w) →
      GivesG P l.toArray o (putAll a0 ((dstsOf l n).zip vs)) w fun v w' => E b w w' ∧ Φ i v w')
    (hturn : ∀ (o : Oper) (vs : List Value) (w : World), l[m]? = some o → vs.length = n → R false w → (∀ e ∈ o.after, Region.binds .any e = true → ∀ v, vs[e.on]? = some v → Φ e.on v w) →
      GivesG P l.toArray o (putAll a0 ((dstsOf l n).zip vs)) w fun v w' => R true w' ∧ Φ m v w' ∧ ∀ i u, i ≠ m → Φ i u w → Φ i u w')
    (hmn : m < n)
    (htail : ∀ (vs : List Value) (w : World), vs.length = n → R true w → (∀ i v, vs[i]? = some v → Φ i v w) → wpList P l.toArray Q (l.drop n) (putAll a0 ((dstsOf l n).zip vs)) w) :
    (Code.region id l.toArray true).wp P Q a0 w0 := by
  simp only [stableGB, Bool.and_eq_true, decide_eq_true_eq, List.all_eq_true] at hB
  obtain ⟨⟨⟨⟨⟨⟨hn, hs⟩, hc⟩, hseq⟩, hdst⟩, hnd⟩, hback⟩ := hB
  have hdl : (dstsOf l n).length = n := by simp [dstsOf]; omega
  refine wp_region_any hm ?_
  -- the state: which operations have been carried out, what the temporaries hold
  have main : ∀ (f : Nat) (listed : Array Bool) (vs : List Value) (w : World), HeadInv .any l.toArray n listed → vs.length = n → R (listed.getD m false) w →
      (∀ i v, i < n → listed.getD i false = true → vs[i]? = some v → Φ i v w) → (listed.toList.take n).count false = f →
      wpAny P .any l.toArray Q (f + (l.length - n)) listed (putAll a0 ((dstsOf l n).zip vs)) w := by
    intro f
    induction f with
    | zero =>
      intro listed vs w inv hv hw hphi hcnt
      have hall : ∀ i, i < n → listed.getD i false = true := by
        intro i hi
        have hsz : i < listed.size := by rw [inv.size]; simp; omega
        have hmem : listed.toList[i]? = some listed[i] := by simp [hsz]
        have hne : listed[i] ≠ false := by
          intro e
          have hm2 : false ∈ listed.toList.take n := by
            rw [List.mem_take_iff_getElem]
            exact ⟨i, by simp; omega, by simpa using e⟩
          have := List.count_pos_iff.2 hm2
          omega
        simp [hsz]; simpa using hne
      have hfull : listed = fullL l n := by
        apply Array.ext
        · rw [inv.size]; simp [fullL]
        · intro i h1 h2
          have hil : i < l.length := by rw [inv.size] at h1; simpa using h1
          simp only [fullL, List.getElem_toArray, List.getElem_map, List.getElem_range]
          by_cases hi : i < n
          · have := hall i hi; simp [h1] at this; simp [this, hi]
          · have := inv.tail i (by omega) (by simpa using hil); simp [h1] at this; simp [this, hi]
      subst hfull
      have hmt : (fullL l n).getD m false = true := hall m hmn
      rw [hmt] at hw
      have hw' := htail vs w hv hw (fun i v hi => hphi i v (by have := (List.getElem?_eq_some_iff.1 hi).1; omega) (hall i (by have := (List.getElem?_eq_some_iff.1 hi).1; omega)) hi)
      have := wpAny_of_seq (md := .any) (Q' := Q) (l.drop n) n (fullL l n) _ w (fun j => by simp [List.getElem?_drop]) (by rw [List.length_drop]; exact hseq) hw'
      rw [List.length_drop] at this
      simpa using this
    | succ f ih =>
      intro listed vs w inv hv hw hphi hcnt
      have hun : ∃ i, i < n ∧ listed.getD i true = false := by
        have : 0 < (listed.toList.take n).count false := by omega
        have hm2 := List.count_pos_iff.1 this
        rw [List.mem_take_iff_getElem] at hm2
        obtain ⟨i, hi, hv2⟩ := hm2
        refine ⟨i, by simp at hi; omega, ?_⟩
        have hsz : i < listed.size := by simp at hi; omega
        rw [Array.getD_eq_getD_getElem?, Array.getElem?_eq_getElem hsz]; simpa using hv2
      rw [show f + 1 + (l.length - n) = (f + (l.length - n)) + 1 by omega]
      obtain ⟨i0, hi0, hu0⟩ := hun
      have hready_lt : ∀ i ∈ Region.ready .any l.toArray listed, i < n := by
        intro i hi
        rcases Nat.lt_or_ge i n with h | h
        · exact h
        · exact absurd hi (tail_waits hs hc (by simpa using hn) inv _ i0 rfl hi0 hu0 i h)
      have hne : Region.ready .any l.toArray listed ≠ [] := by
        -- the first operation that is not yet carried out and whose own conditions are all met: by the least such index
        intro hnil
        obtain ⟨m, hm1, hm2⟩ : ∃ m, (m < n ∧ listed.getD m true = false) ∧ ∀ k, k < m → ¬ (k < n ∧ listed.getD k true = false) := by
          have : ∀ m, (m < n ∧ listed.getD m true = false) → ∃ m, (m < n ∧ listed.getD m true = false) ∧ ∀ k, k < m → ¬ (k < n ∧ listed.getD k true = false) := by
            intro m
            induction m using Nat.strongRecOn with
            | _ m ihm =>
              intro h
              by_cases hex : ∃ k, k < m ∧ (k < n ∧ listed.getD k true = false)
              · obtain ⟨k, hk, hk2⟩ := hex; exact ihm k hk hk2
              · exact ⟨m, h, fun k hk hk2 => hex ⟨k, hk, hk2⟩⟩
          exact this i0 ⟨hi0, hu0⟩
        have hml : m < l.length := by omega
        have hmo : l[m]? = some l[m] := List.getElem?_eq_getElem hml
        have hb1 := hback m (List.mem_range.2 hm1.1)
        rw [hmo] at hb1
        simp only at hb1
        have hmr : m ∈ Region.ready .any l.toArray listed := by
          refine mem_ready.2 ⟨hm1.2, l[m], by simp, fun e he _ => ?_⟩
          have hlt : e.on < m := by
            have := (Array.all_eq_true_iff_forall_mem.1 hb1) e he
            simpa using this
          have hnot := hm2 e.on hlt
          cases hx : listed.getD e.on true with
          | true =>
            have hsz : e.on < listed.size := by rw [inv.size]; simp; omega
            simp [hsz] at hx ⊢; exact hx
          | false => exact absurd ⟨by omega, hx⟩ hnot
        rw [hnil] at hmr; cases hmr
      refine ⟨fun h => absurd h hne, fun i hi => ?_⟩
      have hin := hready_lt i hi
      obtain ⟨hlf, o, ho, hdeps⟩ := mem_ready.1 hi
      have ho' : l[i]? = some o := by simpa using ho
      have hmem : o ∈ l.take n := List.mem_take_iff_getElem.2 ⟨i, (by have := (List.getElem?_eq_some_iff.1 ho').1; omega), (List.getElem?_eq_some_iff.1 ho').2⟩
      have hdo := hdst o hmem
      obtain ⟨d, hd⟩ := Option.isSome_iff_exists.1 hdo
      have hdi : (dstsOf l n)[i]? = some d := by
        simp [dstsOf, hin, ho', hd]
      have hdep : ∀ e ∈ o.after, Region.binds .any e = true → ∀ v, vs[e.on]? = some v → Φ e.on v w := fun e he hb v hve => by
        have hle := hdeps e he hb
        have hen : e.on < n := by have := (List.getElem?_eq_some_iff.1 hve).1; omega
        exact hphi e.on v hen hle hve
      have hsz : i < listed.size := by rw [inv.size]; simp; omega
      have hli : listed.toList[i]? = some false := by
        simp [hsz] at hlf ⊢; exact hlf
      have hgo : ∀ v w', R ((listed.setIfInBounds i true).getD m false) w' → Φ i v w' → (∀ j u, j ≠ i → j < n → listed.getD j false = true → Φ j u w → Φ j u w') → wpAny P .any l.toArray Q (f + (l.length - n)) (listed.setIfInBounds i true) ((putAll a0 ((dstsOf l n).zip vs)).put o.dst v) w' := ?hgo
      case hgo =>
        intro v w' hv1 hv2 hv3
        rw [hd, ← putAll_set a0 (dstsOf l n) vs i d v hnd (by rw [hdl, hv]) hdi]
        refine ih (listed.setIfInBounds i true) (vs.set i v) w' (inv.set hi hin) (by simpa using hv) hv1 ?_ ?_
        · intro j u hj hlj huj
          by_cases e : j = i
          · subst e
            have hjl : j < vs.length := by omega
            rw [List.getElem?_set_self hjl] at huj
            cases huj; exact hv2
          · rw [List.getElem?_set_ne (fun h => e h.symm)] at huj
            rw [getD_set_ne false (fun h => e h.symm)] at hlj
            exact hv3 j u e hj hlj (hphi j u hj hlj huj)
        · have : (listed.setIfInBounds i true).toList.take n = (listed.toList.take n).set i true := by
            rw [Array.toList_setIfInBounds, List.take_set]
          rw [this]
          have h2 := count_set_lt (l := listed.toList.take n) (i := i) (by rw [List.getElem?_take, if_pos hin]; exact hli)
          omega
      have hlf' : listed.getD i false = false := getD_both hlf
      by_cases him : i = m
      · subst him
        have hgive := hturn o vs w ho' hv (by rw [hlf'] at hw; exact hw) hdep
        have hset : (listed.setIfInBounds i true).getD i false = true := by simp [hsz]
        have hgo' : ∀ v w', (R true w' ∧ Φ i v w' ∧ ∀ j u, j ≠ i → Φ j u w → Φ j u w') → wpAny P .any l.toArray Q (f + (l.length - n)) (listed.setIfInBounds i true) ((putAll a0 ((dstsOf l n).zip vs)).put o.dst v) w' := fun v w' h => hgo v w' (by rw [hset]; exact h.1) h.2.1 (fun j u hj _ _ hp => h.2.2 j u hj hp)
        unfold wpOp
        simp only [ho]
        rcases hgive with ⟨hw1, hw2⟩ | ⟨hw1, hw2⟩
        · rw [if_pos hw1]
          exact .inl (hw2 _ _ hgo')
        · rw [if_neg (by rw [hw1]; simp)]
          exact hgo' undef w hw2
      · have hset : (listed.setIfInBounds i true).getD m false = listed.getD m false := getD_set_ne false him
        have hgive := hstep (listed.getD m false) i o vs w hin him (fun om hom ⟨e, he, hb, heo⟩ => by
          cases hx : listed.getD m false with
          | false => rfl
          | true =>
            have := inv.closed m om (by simpa using hom) hx e he hb
            rw [heo, hlf'] at this; cases this) ho' hv hw hdep
        have hgo' : ∀ v w', (E (listed.getD m false) w w' ∧ Φ i v w') → wpAny P .any l.toArray Q (f + (l.length - n)) (listed.setIfInBounds i true) ((putAll a0 ((dstsOf l n).zip vs)).put o.dst v) w' := fun v w' h => hgo v w' (by rw [hset]; exact hR _ w w' hw h.1) h.2 (fun j u _ _ hlj hp => hΦ _ j u w w' (fun e => by subst e; exact hlj) hp h.1)
        unfold wpOp
        simp only [ho]
        rcases hgive with ⟨hw1, hw2⟩ | ⟨hw1, hw2⟩
        · rw [if_pos hw1]
          exact .inl (hw2 _ _ hgo')
        · rw [if_neg (by rw [hw1]; simp)]
          exact hgo' undef w hw2
  have inv0 : HeadInv .any l.toArray n (Array.replicate l.toArray.size false) :=
    ⟨by simp, fun j oj _ hl => (by rw [getD_replicate_false] at hl; cases hl), fun t _ ht => getD_in (by simpa using ht) (getD_replicate_false _ _)⟩
  have := main n (Array.replicate l.toArray.size false) ((dstsOf l n).map fun d => a0.tmps.getD d undef) _ inv0 (by simpa using hdl) (by rw [getD_replicate_false]; exact h0)
    (fun i v _ hl _ => by rw [getD_replicate_false] at hl; cases hl) (by simp; omega)
  rw [putAll_same, show n + (l.length - n) = l.toArray.size by simp; omega] at this
  exact this
theorem wp_region_turnGD {id : Nat} {l : List Oper} {a0 : Act} {w0 : World} (n m : Nat) (ds : List Tmp) (hm : P.follows .mixedOrders = true) (hB : stableGB l n = true) (hds : dstsOf l n = ds)
    (R : Bool → World → Prop) (E : Bool → World → World → Prop) (Φ : Nat → Value → World → Prop) (hR : ∀ b w w', R b w → E b w w' → R b w') (hΦ : ∀ b i v w w', (i = m → b = true) → Φ i v w → E b w w' → Φ i v w')
    (h0 : R false w0.drew)
    (hstep : ∀ (b : Bool) (i : Nat) (o : Oper) (vs : List Value) (w : World), i < n → i ≠ m → (∀ om, l[m]? = some om → (∃ e ∈ om.after, Region.binds .any e = true ∧ e.on = i) → b = false) → l[i]? = some o → vs.length = n → R b w → (∀ e ∈ o.after, Region.binds .any e = true → ∀ v, vs[e.on]? = some v → Φ e.on v w) →
      GivesG P l.toArray o (putAll a0 (ds.zip vs)) w fun v w' => E b w w' ∧ Φ i v w')
    (hturn : ∀ (o : Oper) (vs : List Value) (w : World), l[m]? = some o → vs.length = n → R false w → (∀ e ∈ o.after, Region.binds .any e = true → ∀ v, vs[e.on]? = some v → Φ e.on v w) →
      GivesG P l.toArray o (putAll a0 (ds.zip vs)) w fun v w' => R true w' ∧ Φ m v w' ∧ ∀ i u, i ≠ m → Φ i u w → Φ i u w')
    (hmn : m < n)
    (htail : ∀ (vs : List Value) (w : World), vs.length = n → R true w → (∀ i v, vs[i]? = some v → Φ i v w) → wpList P l.toArray Q (l.drop n) (putAll a0 (ds.zip vs)) w) :
    (Code.region id l.toArray true).wp P Q a0 w0 := by
  subst hds
  exact wp_region_turnG n m hm hB R E Φ hR hΦ h0 hstep hturn hmn htail
end Go.Proofs.YtmdhlkkekidknaaGreatDoor

namespace Go.Proofs.YtmdhlkkekidknaaGreatDoor
open Go.RowKit

def asPhi (k : Nat) (vals : List Value) (base : Nat) (t : TypeId) (cs : Array Value) (i : Nat) (v : Value) (W : World) : Prop :=
  if i = k then ∃ b0, v = .slice (some ⟨b0, 0, none⟩) 1 1 ∧ base ≤ b0 ∧ Bk W b0 t cs else vPhi vals i v W
theorem asPhi_keep {k : Nat} {vals : List Value} {base : Nat} {t : TypeId} {cs : Array Value} (i : Nat) (v : Value) (W W' : World) (h : asPhi k vals base t cs i v W) (hb : Below W.heap.size W W') : asPhi k vals base t cs i v W' := by
  unfold asPhi at h ⊢
  by_cases e : i = k
  · rw [if_pos e] at h ⊢
    obtain ⟨b0, h1, h2, h3⟩ := h
    exact ⟨b0, h1, h2, h3.below hb h3.lt⟩
  · rw [if_neg e] at h ⊢; exact h
end Go.Proofs.YtmdhlkkekidknaaGreatDoor

namespace Go.Proofs.YtmdhlkkekidknaaGreatDoor
open Go.RowKit

theorem be_get : ∀ (k n j : Nat), j < k → (be k n)[j]? = some (UInt8.ofNat (n / 256 ^ (k - 1 - j) % 256))
  | 0, _, _, h => by omega
  | k + 1, n, 0, _ => by simp [be]
  | k + 1, n, j + 1, h => by
    simp only [be, List.getElem?_cons_succ]
    rw [be_get k n j (by omega), show k + 1 - 1 - (j + 1) = k - 1 - j by omega]
theorem Txt.run_append_far {P : Program} {w0 w : World} {base av n c : Nat} {A : Option Addr} {bs : Bytes} (h0 : Txt w0 base av A n c bs) (hW : Below w0.heap.size w0 w) (t tx ty e : TypeId) (i : TypeInfo) (ht : P.underlying t = some (.slice e)) (hi : P.info? e = some i) (hz : i.zero = some (.int .u8 0)) (hsize : i.size = 1) (hby : i.bytes = 1)
    (x : Value) (m : Nat) (ys : Bytes) (hs : Src P 1 tx x m (bc ys) w) (hmax : n + m ≤ 140737488355328) (hbase : base ≤ w.heap.size) (hav : av < w.heap.size) :
    ∃ A' c' w', (Builtin.append_ #[t, tx] ty #[.slice A n c, x]).run P w = .ok (.slice A' (n + m) c') w' ∧ Txt w' base av A' (n + m) c' (bs ++ ys) ∧ Below base w w' ∧ w'.heap[av]? = w.heap[av]? ∧ ∀ k, w0.heap.size ≤ k → k < w.heap.size → w'.heap[k]? = w.heap[k]? := by
  obtain ⟨A', c', w', hr, h1, h2, h3⟩ := (h0.below hW).run_append (P := P) t tx ty e i ht hi hz hsize hby x m ys hs hmax hbase hav
  refine ⟨A', c', w', hr, h1, h2, h3, fun k hk1 hk2 => ?_⟩
  obtain ⟨A2, c2, w2, hr2, _, _, g3⟩ := ((h0.avoid hk1).below hW).run_append (P := P) t tx ty e i ht hi hz hsize hby x m ys hs hmax hbase hk2
  have e := hr.symm.trans hr2
  simp only [Result.ok.injEq] at e
  rw [e.2]; exact g3
def WdP (b base : Nat) (bs : Bytes) (w : World) (v : Value) (w1 : World) : Prop := ∃ A c, v = .slice A bs.length c ∧ Txt w1 base b A bs.length c bs ∧ Below base w w1 ∧ w1.heap[b]? = w.heap[b]?
set_option maxRecDepth 100000 in
set_option maxHeartbeats 4000000 in
theorem wdigest_any (b base : Nat) (d : Dig) (hd : WfD d) (bs : Bytes) (w : World) (h : Wrt w b base bs) (hn : bs.length ≤ 1000000) :
    Calls Tryz.prog 143 #[.pointer (some ⟨b, 0, none⟩), digV d] w (WrtEnd b base (bs ++ digB d) w) := by
  obtain ⟨x, y⟩ := d
  obtain ⟨hx0, hx1, hy0, hy1⟩ := hd
  simp only at hx0 hx1 hy0 hy1
  obtain ⟨x, rfl⟩ := Int.eq_ofNat_of_zero_le hx0
  obtain ⟨y, rfl⟩ := Int.eq_ofNat_of_zero_le hy0
  have HX1 := Lib.hid hx1; have HY1 := Lib.hid hy1; clear hx0 hx1 hy0 hy1
  show Calls Tryz.prog 143 #[.pointer (some ⟨b, 0, none⟩), .agg #[.int .u64 x, .int .u64 y]] w _
  obtain ⟨i0, hi, hz0, hz1, hz2⟩ := info_parts infoByt
  have Hi := Lib.hid hi; have Hz0 := Lib.hid hz0; have Hz1 := Lib.hid hz1; have Hz2 := Lib.hid hz2
  have hlt := h.lt; have hle := h.le
  obtain ⟨W0, hW0⟩ : ∃ W0, w.alloc (.cells #[.int .u64 x, .int .u64 y] 30) = W0 := ⟨_, rfl⟩
  have HB0 : Hid (Below w.heap.size w W0) := by rw [← hW0]; exact (Below.refl _ _).alloc (Nat.le_refl _) _
  have HK0 : Hid (Bk W0 w.heap.size 30 #[.int .u64 x, .int .u64 y]) := by rw [← hW0]; exact Bk.new w _ _
  obtain ⟨x0, x1, _, _⟩ := HK0.out.two
  have HR0 : Hid (Wrt W0 b base (bs ++ (digB (x, y)).take (8 * 0))) := by
    show Wrt _ _ _ _; rw [Nat.mul_zero, List.take_zero, List.append_nil]; exact h.below HB0.out
  have HB1 : Hid (Below b w W0) := HB0.out.mono (by omega)
  have hz0' : w.heap.size ≤ W0.heap.size := HB0.out.size
  clear hi hz0 hz1 hz2 h
  go_enter Tryz.func143, Tryz.ntmps143
  go_wp2_with fail
  clear hW0
  go_loopw [8] (fun i wr => ∃ k : Nat, k ≤ 2 ∧ i = .int .i64 k ∧ Hid (Wrt wr b base (bs ++ (digB (x, y)).take (8 * k))) ∧ Hid (Below b w wr) ∧ w.heap.size ≤ wr.heap.size) (fun i _ => 2 - (intOf i).toNat)
  case atStart => exact ⟨0, by omega, rfl, HR0.out, HB1.out, hz0'⟩
  case round =>
    obtain ⟨k, hk, rfl, hT, hB, hwz⟩ := hrel
    by_cases hlt2 : k < 2
    · have hlz : (k : Int) < 2 := by omega
      obtain ⟨z, hz, hix, hby⟩ : ∃ z : Nat, Hid (z < 18446744073709551616) ∧ (∀ w, (Instr.index 30 (.agg #[.int .u64 (x : Int), .int .u64 (y : Int)]) (.int .i64 (k : Int))).run Tryz.prog w = .ok (.int .u64 (z : Int)) w) ∧ (∀ j, j < 8 → (digB ((x : Int), (y : Int)))[8 * k + j]? = some (UInt8.ofNat (z / 256 ^ (7 - j) % 256))) := by
        rcases Nat.lt_or_ge k 1 with h1 | h1
        · obtain rfl : k = 0 := by omega
          refine ⟨x, by show _ < _; have := HX1.out; omega, fun w => by kernel_rfl, fun j hj => ?_⟩
          unfold digB
          rw [List.getElem?_append_left (by rw [be_len]; omega), Int.toNat_natCast, show 8 * 0 + j = j by omega]
          exact be_get 8 x j hj
        · obtain rfl : k = 1 := by omega
          refine ⟨y, by show _ < _; have := HY1.out; omega, fun w => by kernel_rfl, fun j hj => ?_⟩
          unfold digB
          rw [List.getElem?_append_right (by rw [be_len]; omega), Int.toNat_natCast, be_len, show 8 * 1 + j - 8 = j by omega]
          exact be_get 8 y j hj
      have HBY := Lib.hid hby; clear hby
      go_wp2_with fail
      obtain ⟨wo, rfl⟩ : ∃ wo : World, wo = wr := ⟨_, rfl⟩
      go_loopw [6] (fun i wr => ∃ j : Nat, j ≤ 8 ∧ i = .int .i64 (56 - 8 * (j : Int)) ∧ Hid (Wrt wr b base (bs ++ (digB (x, y)).take (8 * k + j))) ∧ Hid (Below b w wr) ∧ w.heap.size ≤ wr.heap.size) (fun i _ => (intOf i + 8).toNat)
      case atStart => exact ⟨0, by omega, rfl, hT, hB, hwz⟩
      case round =>
        obtain ⟨j, hj, rfl, hT, hB, hwz⟩ := hrel
        by_cases hlt : j < 8
        · have hji : (0 : Int) ≤ 56 - 8 * (j : Int) := by omega
          obtain ⟨p, hp⟩ : ∃ p, z / 256 ^ (7 - j) = p := ⟨_, rfl⟩
          have hsh : ∀ yk, Op.shift .shr .u64 (z : Int) yk (56 - 8 * (j : Int)) = pure (.int .u64 (p : Int)) := fun yk => by
            rw [shift_shr .u64 yk _ _ hji (by show _ ≤ (64 : Int); omega), ← hp]
            rw [show (56 - 8 * (j : Int)).toNat = 8 * (7 - j) by omega]
            have e : ((z : Int) / 2 ^ (8 * (7 - j))) = ((z / 256 ^ (7 - j) : Nat) : Int) := by
              rw [show (256 : Nat) = 2 ^ 8 from rfl, ← Nat.pow_mul]; simp
            rw [e]
          have hdv : (z : Int) / 2 ^ (56 - 8 * (j : Int)).toNat = (p : Int) := by
            rw [show (56 - 8 * (j : Int)).toNat = 8 * (7 - j) by omega]
            have e : ((z : Int) / 2 ^ (8 * (7 - j))) = ((z / 256 ^ (7 - j) : Nat) : Int) := by
              rw [show (256 : Nat) = 2 ^ 8 from rfl, ← Nat.pow_mul]; simp
            rw [e, hp]
          obtain ⟨bt, hbt⟩ : ∃ b, UInt8.ofNat (p % 256) = b := ⟨_, rfl⟩
          have hw : IntKind.u8.wrap (p : Int) = (bt.toNat : Int) := by
            rw [IntKind.wrap_u8, ← hbt, toNat_ofNat8 (by omega)]; omega
          have HBJ : Hid ((digB ((x : Int), (y : Int)))[8 * k + j]? = some bt) := by
            show _ = _
            rw [HBY.out j hlt, hp, hbt]
          have HBE : Hid (bs ++ (digB ((x : Int), (y : Int))).take (8 * k + j + 1) = (bs ++ (digB ((x : Int), (y : Int))).take (8 * k + j)) ++ [bt]) := by
            show _ = _; rw [take_snoc HBJ.out, List.append_assoc]
          have hml : (bs ++ (digB ((x : Int), (y : Int))).take (8 * k + j)).length ≤ 1000016 := by rw [List.length_append, List.length_take]; omega
          obtain ⟨cs, hcs⟩ : ∃ cs, bs ++ (digB ((x : Int), (y : Int))).take (8 * k + j) = cs := ⟨_, rfl⟩
          rw [hcs] at hml HBE
          have hT' := hT.out
          rw [hcs] at hT'
          obtain ⟨A, c, hkw, htx⟩ := hT'.ex
          have HKW := Lib.hid hkw; have HTX := Lib.hid htx
          have hbase := hT'.le
          obtain ⟨y0, y1, f0, _⟩ := hkw.two
          clear hp hbt hcs hkw htx hT' hT x0 x1
          generalize hq : 56 - 8 * (j : Int) = q at *
          have HQ := Lib.hid hq
          have hq0 : 0 ≤ q := by omega
          have hq2 : q ≤ 56 := by omega
          have hbr := HKW.out.lt
          clear hq
          go_wp2_with fail
          refine wp_region_turnGD 11 10 (15 :: 16 :: 17 :: 18 :: 19 :: 20 :: 21 :: 22 :: 23 :: 24 :: 25 :: []) (by kernel_rfl) (by kernel_rfl) (by kernel_rfl) (fun b W => match b with | false => Below wr.heap.size wr W | true => True) (fun b W W' => match b with | false => Below W.heap.size W W' | true => W' = W)
            (fun i v W => if i = 10 then (WdP b base (cs ++ [bt]) wr) v W else asPhi 9 ((.pointer (some ⟨b, 0, none⟩)) :: (.pointer (some ⟨b, 0, none⟩)) :: (.pointer (some ⟨b, 0, none⟩)) :: (.pointer (some ⟨b, 0, none⟩)) :: (.slice A cs.length c) :: (.int .u64 (z : Int)) :: (.int .i64 q) :: (.int .u64 (p : Int)) :: (.int .u8 (bt.toNat : Int)) :: (undef) :: (undef) :: []) wr.heap.size 5 #[.int .u8 (bt.toNat : Int)] i v W) ?hRD ?hPD (Below.refl _ _).drew ?stepD ?turnD (by decide) ?tailD
          case hRD =>
            intro bq W W' h1 h2
            cases bq with
            | false => exact Below.trans h1 (Below.mono h2 (Below.size h1))
            | true => trivial
          case hPD =>
            intro bq i v W W' hb h1 h2
            cases bq with
            | true => have h3 : W' = W := h2; rw [h3]; exact h1
            | false =>
              by_cases e : i = 10
              · cases hb e
              · simp only [if_neg e] at h1 ⊢; exact asPhi_keep i v W W' h1 h2
          case stepD =>
            intro bq i o vs W hi hne hbd ho hv hR hphi
            obtain ⟨v0, v1, v2, v3, v4, v5, v6, v7, v8, v9, v10, rfl⟩ := ls11 hv
            simp only [List.zip, List.zipWith, putAll, Act.put, List.setIfInBounds_toArray, List.set]
            have hE : (fun (b : Bool) (W W' : World) => match b with | false => Below W.heap.size W W' | true => W' = W) bq W W := by
              cases bq with
              | false => exact Below.refl _ _
              | true => rfl
            match i, hi, ho with
            | 0, _, rfl =>
              exact .inl ⟨rfl, gives_value (v := .pointer (some ⟨b, 0, none⟩)) (w' := W) (by go_simp) ⟨hE, fun u hu => by cases hu; rfl⟩⟩
            | 1, _, rfl =>
              exact .inl ⟨rfl, gives_value (v := .pointer (some ⟨b, 0, none⟩)) (w' := W) (by go_simp) ⟨hE, fun u hu => by cases hu; rfl⟩⟩
            | 2, _, rfl =>
              have e1 : v1 = _ := hphi ⟨1, .data⟩ (by simp) rfl v1 rfl _ rfl
              subst e1
              exact .inl ⟨rfl, gives_value (v := .pointer (some ⟨b, 0, none⟩)) (w' := W) (by go_simp) ⟨hE, fun u hu => by cases hu; rfl⟩⟩
            | 3, _, rfl =>
              have e2 : v2 = _ := hphi ⟨2, .data⟩ (by simp) rfl v2 rfl _ rfl
              subst e2
              exact .inl ⟨rfl, gives_value (v := .pointer (some ⟨b, 0, none⟩)) (w' := W) (by go_simp) ⟨hE, fun u hu => by cases hu; rfl⟩⟩
            | 4, _, rfl =>
              have e3 : v3 = _ := hphi ⟨3, .data⟩ (by simp) rfl v3 rfl _ rfl
              subst e3
              have hb0 : bq = false := hbd _ rfl ⟨⟨4, .data⟩, by simp, rfl, rfl⟩
              subst hb0
              have y0' := (Below.cell hR (p := ⟨b, 0, none⟩) (by show b < _; omega)).trans y0
              exact .inl ⟨rfl, gives_value (v := .slice A cs.length c) (w' := W) (by go_simp) ⟨hE, fun u hu => by cases hu; rfl⟩⟩
            | 5, _, rfl =>
              exact .inl ⟨rfl, gives_value (v := .int .u64 (z : Int)) (w' := W) (by go_simp) ⟨hE, fun u hu => by cases hu; rfl⟩⟩
            | 6, _, rfl =>
              exact .inl ⟨rfl, gives_value (v := .int .i64 q) (w' := W) (by go_simp) ⟨hE, fun u hu => by cases hu; rfl⟩⟩
            | 7, _, rfl =>
              have e5 : v5 = _ := hphi ⟨5, .data⟩ (by simp) rfl v5 rfl _ rfl
              have e6 : v6 = _ := hphi ⟨6, .data⟩ (by simp) rfl v6 rfl _ rfl
              subst e5 e6
              exact .inl ⟨rfl, gives_value (v := .int .u64 (p : Int)) (w' := W) (by go_simp) ⟨hE, fun u hu => by cases hu; rfl⟩⟩
            | 8, _, rfl =>
              have e7 : v7 = _ := hphi ⟨7, .data⟩ (by simp) rfl v7 rfl _ rfl
              subst e7
              exact .inl ⟨rfl, gives_value (v := .int .u8 (bt.toNat : Int)) (w' := W) (by go_simp) ⟨hE, fun u hu => by cases hu; rfl⟩⟩
            | 9, _, rfl =>
              have e8 : v8 = _ := hphi ⟨8, .data⟩ (by simp) rfl v8 rfl _ rfl
              subst e8
              have hb0 : bq = false := hbd _ rfl ⟨⟨9, .data⟩, by simp, rfl, rfl⟩
              subst hb0
              have y0' := (Below.cell hR (p := ⟨b, 0, none⟩) (by show b < _; omega)).trans y0
              exact .inl ⟨rfl, gives_value (v := .slice (some ⟨W.heap.size, 0, none⟩) 1 1) (w' := W.alloc (.cells #[.int .u8 (bt.toNat : Int)] 5)) (by go_simp) ⟨(Below.refl _ W).alloc (Nat.le_refl _) _, W.heap.size, rfl, Below.size hR, Bk.new W _ _⟩⟩
            | 10, _, _ => exact absurd rfl hne
            | i + 11, hi, _ => exact absurd hi (by omega)
          case turnD =>
            intro o vs W ho hv hR hphi
            obtain ⟨v0, v1, v2, v3, v4, v5, v6, v7, v8, v9, v10, rfl⟩ := ls11 hv
            cases ho
            simp only [List.zip, List.zipWith, putAll, Act.put, List.setIfInBounds_toArray, List.set]
            have e4 : v4 = _ := hphi ⟨4, .data⟩ (by simp) rfl v4 rfl _ rfl
            obtain ⟨ab, ea, hab, hak⟩ : ∃ b0, v9 = .slice (some ⟨b0, 0, none⟩) 1 1 ∧ wr.heap.size ≤ b0 ∧ Bk W b0 5 #[.int .u8 (bt.toNat : Int)] := hphi ⟨9, .data⟩ (by simp) rfl v9 rfl
            subst e4 ea
            have hR : Below wr.heap.size wr W := hR
            have hall : ∀ w1 : World, (∀ b, wr.heap.size ≤ b → b < W.heap.size → w1.heap[b]? = W.heap[b]?) → ∀ (i : Nat) (u : Value), i ≠ 10 → (if i = 10 then (WdP b base (cs ++ [bt]) wr) u W else asPhi 9 ((.pointer (some ⟨b, 0, none⟩)) :: (.pointer (some ⟨b, 0, none⟩)) :: (.pointer (some ⟨b, 0, none⟩)) :: (.pointer (some ⟨b, 0, none⟩)) :: (.slice A cs.length c) :: (.int .u64 (z : Int)) :: (.int .i64 q) :: (.int .u64 (p : Int)) :: (.int .u8 (bt.toNat : Int)) :: (undef) :: (undef) :: []) wr.heap.size 5 #[.int .u8 (bt.toNat : Int)] i u W) → (if i = 10 then (WdP b base (cs ++ [bt]) wr) u w1 else asPhi 9 ((.pointer (some ⟨b, 0, none⟩)) :: (.pointer (some ⟨b, 0, none⟩)) :: (.pointer (some ⟨b, 0, none⟩)) :: (.pointer (some ⟨b, 0, none⟩)) :: (.slice A cs.length c) :: (.int .u64 (z : Int)) :: (.int .i64 q) :: (.int .u64 (p : Int)) :: (.int .u8 (bt.toNat : Int)) :: (undef) :: (undef) :: []) wr.heap.size 5 #[.int .u8 (bt.toNat : Int)] i u w1) := fun w1 hk i u hi hu => by
              simp only [if_neg hi] at hu ⊢
              unfold asPhi at hu ⊢
              by_cases e : i = 9
              · rw [if_pos e] at hu ⊢
                obtain ⟨b0, p1, p2, p3⟩ := hu
                exact ⟨b0, p1, p2, (hk b0 p2 p3.lt).trans p3⟩
              · rw [if_neg e] at hu ⊢; exact hu
            refine .inl ⟨rfl, ?_⟩
            obtain ⟨A5, c5, w1, hr5, ht5, hb5, hk5, hfar⟩ := HTX.out.run_append_far (P := Tryz.prog) hR 161 161 161 5 i0 Tryz.underlying161 Hi.out Hz0.out Hz1.out Hz2.out (.slice (some ⟨ab, 0, none⟩) 1 1) 1 [bt] (Src.ofSlice _ Tryz.underlying161 ⟨ab, 0, none⟩ 1 1 (bc [bt]) rfl (fun j u hu => by rw [Addr.add_lit, Nat.zero_add, hak.cell]; simpa [bc] using hu) (fun u hu => by simp [bc] at hu; subst hu; rfl)) (by omega) (by have := hR.size; omega) (by have := hR.size; omega)
            refine gives_append (.tmp 19) (.tmp 24) 161 rfl rfl rfl hr5 ⟨trivial, ⟨A5, c5, by simp, by simpa using ht5, ((hR.mono (by omega)).trans hb5), hk5.trans (hR.block b hbr)⟩, hall w1 hfar⟩
          case tailD =>
            intro vs W hv hR hphi
            obtain ⟨v0, v1, v2, v3, v4, v5, v6, v7, v8, v9, v10, rfl⟩ := ls11 hv
            simp only [List.zip, List.zipWith, putAll, Act.put, List.setIfInBounds_toArray, List.set, List.drop]
            have e0 : v0 = _ := hphi 0 v0 rfl _ rfl
            have e1 : v1 = _ := hphi 1 v1 rfl _ rfl
            have e2 : v2 = _ := hphi 2 v2 rfl _ rfl
            have e3 : v3 = _ := hphi 3 v3 rfl _ rfl
            have e4 : v4 = _ := hphi 4 v4 rfl _ rfl
            have e5 : v5 = _ := hphi 5 v5 rfl _ rfl
            have e6 : v6 = _ := hphi 6 v6 rfl _ rfl
            have e7 : v7 = _ := hphi 7 v7 rfl _ rfl
            have e8 : v8 = _ := hphi 8 v8 rfl _ rfl
            obtain ⟨ab, ea, hab, hak⟩ : ∃ b0, v9 = .slice (some ⟨b0, 0, none⟩) 1 1 ∧ wr.heap.size ≤ b0 ∧ Bk W b0 5 #[.int .u8 (bt.toNat : Int)] := hphi 9 v9 rfl
            have em : (WdP b base (cs ++ [bt]) wr) v10 W := hphi 10 v10 rfl
            subst e0 e1 e2 e3 e4 e5 e6 e7 e8 ea
            clear hphi hv hR hak hab
            obtain ⟨A5, c5, ev, ht5, hb5, hk5⟩ := em
            subst ev
            have HK5 : Hid (Bk W b 163 #[.slice A cs.length c, .bool false]) := hk5.trans HKW.out
            have HT5 := Lib.hid ht5
            have hz5 := hb5.size
            have HB5 : Hid (Below b w W) := hB.out.trans (hb5.mono (by omega))
            obtain ⟨z0, z1, g0, _⟩ := HK5.out.two
            have hcl : (cs ++ [bt]).length = cs.length + 1 := by simp
            clear ht5 hb5 hk5 y0 y1 f0
            go_wp2_with fail
            go_roundw
            case rel =>
              refine ⟨j + 1, by omega, by rw [← HQ.out]; congr 1; omega, ?_, HB5.out.setCell (p := ⟨b, 0, none⟩) (Nat.le_refl _) _, by simp [World.setCell]; omega⟩
              show Wrt _ _ _ (bs ++ (digB ((x : Int), (y : Int))).take (8 * k + j + 1))
              rw [HBE.out]
              refine ⟨⟨A5, c5, ?_, HT5.out.far rfl _⟩, by omega, by simp [World.setCell]; omega⟩
              have := HK5.out.set 0 (.slice A5 (cs ++ [bt]).length c5)
              simpa using this
            case measure => have := HQ.out; simp [intOf]; omega
        · have hji : ¬ (0 : Int) ≤ 56 - 8 * (j : Int) := by omega
          have HJ8 : Hid (j = 8) := by show _ = _; omega
          generalize hq : 56 - 8 * (j : Int) = q at *
          clear hq
          go_wp2_with fail
          go_roundw
          case rel => exact ⟨k + 1, by omega, by go_num, by show Wrt _ _ _ _; have h1 := hT.out; rw [HJ8.out] at h1; exact h1, hB.out, hwz⟩
          case measure => simp [intOf]; omega
    · have hlz : ¬ (k : Int) < 2 := by omega
      have HK2 : Hid (k = 2) := by show _ = _; omega
      have hT2 := hT.out
      rw [HK2.out, List.take_of_length_le (by rw [digB_len]; omega)] at hT2
      have HT2 := Lib.hid hT2
      clear hT2
      go_wp2_with fail
      go_end0
      exact ⟨rfl, HT2.out, hB.out, hwz⟩
end Go.Proofs.YtmdhlkkekidknaaGreatDoor

namespace Go.Proofs.YtmdhlkkekidknaaGreatDoor
open Go.RowKit

theorem Txt.join {w w' : World} {base base' b x n c : Nat} {A : Option Addr} {bs bs' : Bytes} (h : Txt w' base b A n c bs) (hx : Txt w base' x A n c bs') : Txt w' base x A n c bs :=
  ⟨h.len, h.le, h.max, fun h0 => by
    obtain ⟨q, off, e, h1, h2⟩ := h.lies h0
    obtain ⟨q', off', e', g1, _⟩ := hx.lies h0
    rw [e] at e'
    simp only [Option.some.injEq, Addr.mk.injEq] at e'
    exact ⟨q, off, e, ⟨h1.1, by rw [e'.1]; exact g1.2⟩, h2⟩⟩
theorem Txt.run_append_two {P : Program} {w : World} {base b x n c : Nat} {A : Option Addr} {bs : Bytes} (h : Txt w base b A n c bs) (hx : Txt w base x A n c bs) (t tx ty e : TypeId) (i : TypeInfo) (ht : P.underlying t = some (.slice e)) (hi : P.info? e = some i) (hz : i.zero = some (.int .u8 0)) (hsize : i.size = 1) (hby : i.bytes = 1)
    (xv : Value) (m : Nat) (ys : Bytes) (hs : Src P 1 tx xv m (bc ys) w) (hmax : n + m ≤ 140737488355328) (hbase : base ≤ w.heap.size) (hb : b < w.heap.size) (hxl : x < w.heap.size) :
    ∃ A' c' w', (Builtin.append_ #[t, tx] ty #[.slice A n c, xv]).run P w = .ok (.slice A' (n + m) c') w' ∧ Txt w' base b A' (n + m) c' (bs ++ ys) ∧ Txt w' base x A' (n + m) c' (bs ++ ys) ∧ Below base w w' ∧ w'.heap[b]? = w.heap[b]? ∧ w'.heap[x]? = w.heap[x]? := by
  obtain ⟨A', c', w', hr, h1, h2, h3⟩ := h.run_append (P := P) t tx ty e i ht hi hz hsize hby xv m ys hs hmax hbase hb
  obtain ⟨A2, c2, w2, hr2, g1, _, g3⟩ := hx.run_append (P := P) t tx ty e i ht hi hz hsize hby xv m ys hs hmax hbase hxl
  have e := hr.symm.trans hr2
  simp only [Result.ok.injEq, Value.slice.injEq, true_and] at e
  obtain ⟨⟨rfl, rfl⟩, rfl⟩ := e
  exact ⟨A', c', w', hr, h1, g1, h2, h3, g3⟩
theorem wpList_append_two {P : Program} {w : World} {base b x n c : Nat} {A : Option Addr} {bs : Bytes} {ops : Array Oper} {rest : List Oper} {o : Oper} {a : Act} {Q : Exit → Act → World → Prop} (hgd : o.guard = none) (s xo : Operand) (t tx : TypeId)
    (ho : o.op = .call { callee := .builtin .append, args := #[s, xo], argTypes := #[t, tx] })
    (e : TypeId) (i : TypeInfo) (ht : P.underlying t = some (.slice e)) (hi : P.info? e = some i) (hz : i.zero = some (.int .u8 0)) (hsize : i.size = 1) (hby : i.bytes = 1)
    (hv : a.eval s = .slice A n c) (h : Txt w base b A n c bs) (hx2 : Txt w base x A n c bs)
    (xv : Value) (m : Nat) (ys : Bytes) (hx : a.eval xo = xv) (hs : Src P 1 tx xv m (bc ys) w) (hmax : n + m ≤ 140737488355328) (hbase : base ≤ w.heap.size) (hb : b < w.heap.size) (hxl : x < w.heap.size)
    (hK : ∀ A' c' w', Txt w' base b A' (n + m) c' (bs ++ ys) → Txt w' base x A' (n + m) c' (bs ++ ys) → Below base w w' → w'.heap[b]? = w.heap[b]? → w'.heap[x]? = w.heap[x]? → wpList P ops Q rest (a.put o.dst (.slice A' (n + m) c')) w') : wpList P ops Q (o :: rest) a w := by
  refine wpList_plain hgd fun K hK' => ?_
  obtain ⟨A', c', w', hrun, h1, h2, h3, h4, h5⟩ := h.run_append_two (P := P) hx2 t tx o.type e i ht hi hz hsize hby xv m ys hs hmax hbase hb hxl
  unfold Oper.wp
  simp [execOp, ho, resolve, invoke, builtin, hv, hx, hrun, Result.andThen]
  exact hK' _ _ (hK A' c' w' h1 h2 h3 h4 h5)
structure Wrx (w : World) (b base x : Nat) (bs : Bytes) : Prop where
  ex : ∃ A c, Bk w b 163 #[.slice A bs.length c, .bool false] ∧ Txt w base b A bs.length c bs ∧ Txt w base x A bs.length c bs
  lt : b < base
  le : base ≤ w.heap.size
  ne : x ≠ b
  xl : x < w.heap.size
theorem Wrx.wrt {w : World} {b base x : Nat} {bs : Bytes} (h : Wrx w b base x bs) : Wrt w b base bs := by
  obtain ⟨A, c, h1, h2, _⟩ := h.ex
  exact ⟨⟨A, c, h1, h2⟩, h.lt, h.le⟩
theorem Wrx.below {w w' : World} {b base x : Nat} {bs : Bytes} (h : Wrx w b base x bs) (hb : Below w.heap.size w w') : Wrx w' b base x bs := by
  obtain ⟨A, c, h1, h2, h3⟩ := h.ex
  exact ⟨⟨A, c, h1.below hb h1.lt, h2.below hb, h3.below hb⟩, h.lt, Nat.le_trans h.le hb.size, h.ne, Nat.lt_of_lt_of_le h.xl hb.size⟩
theorem Wrt.wrx {w w' : World} {b base : Nat} {bs : Bytes} (h : Wrt w b base bs) (hb : Below w.heap.size w w') (hx : w.heap.size < w'.heap.size) : Wrx w' b base w.heap.size bs := by
  obtain ⟨A, c, h1, h2⟩ := h.ex
  exact ⟨⟨A, c, h1.below hb h1.lt, h2.below hb, (h2.avoid (Nat.le_refl _)).below hb⟩, h.lt, Nat.le_trans h.le hb.size, by have := h.lt; have := h.le; omega, hx⟩
def WrxEnd (b base x : Nat) (bs : Bytes) (w : World) (e : Ending) (w' : World) : Prop := e = .returned (.tuple #[]) ∧ Wrx w' b base x bs ∧ Below b w w' ∧ w.heap.size ≤ w'.heap.size ∧ w'.heap[x]? = w.heap[x]?

set_option maxRecDepth 100000 in
set_option maxHeartbeats 2000000 in
theorem wnumberX (b base x : Nat) (k : Nat) (bs : Bytes) (w : World) (h : Wrx w b base x bs) (hk : k ≤ 1099511627776) (hn : bs.length ≤ 1000000) :
    Calls Tryz.prog 141 #[.pointer (some ⟨b, 0, none⟩), .int .i64 k] w (WrxEnd b base x (bs ++ encN k) w) := by
  have HP := Lib.hid (putInt_any k hk w)
  have H := Lib.hid h
  have hle := encN_len 5 k (by omega)
  obtain ⟨i0, hi, hz0, hz1, hz2⟩ := info_parts infoByt
  have Hi := Lib.hid hi; have Hz0 := Lib.hid hz0; have Hz1 := Lib.hid hz1; have Hz2 := Lib.hid hz2
  clear h hi hz0 hz1 hz2
  go_enter Tryz.func141, Tryz.ntmps141
  go_wp2_with (go_at_call 192; refine HP.out.mono ?_; rintro e w1 ⟨rfl, hb1⟩; refine halt_ ?_)
  refine unhalt ?_
  have H1 := H.out.below hb1
  obtain ⟨A, c, hk1, ht1, hx1⟩ := H1.ex
  have hlt := H1.lt; have hbase := H1.le
  have HNE := Lib.hid H1.ne; have HXL := Lib.hid H1.xl
  have HB1 : Hid (Below b w w1) := hb1.mono (by have := H.out.lt; have := H.out.le; omega)
  have HXK1 : Hid (w1.heap[x]? = w.heap[x]?) := hb1.block x H.out.xl
  have hz1 := hb1.size
  have HK1 := Lib.hid hk1; have HT1 := Lib.hid ht1; have HX1 := Lib.hid hx1
  have c0 := HK1.out.cell 0; have c1 := HK1.out.cell 1; have f1 := HK1.out.free 1
  simp at c0 c1
  clear hb1 H1 hk1 ht1 hx1
  obtain ⟨W2, hW2⟩ : ∃ W2, w1.setCell ⟨b, 1, none⟩ (.bool false) = W2 := ⟨_, rfl⟩
  have HK2 : Hid (Bk W2 b 163 #[.slice A bs.length c, .bool false]) := by
    rw [← hW2]; have := HK1.out.set 1 (.bool false); show Bk _ _ _ _; simpa using this
  have HT2 : Hid (Txt W2 base b A bs.length c bs) := by rw [← hW2]; exact HT1.out.far rfl _
  have HX2 : Hid (Txt W2 base x A bs.length c bs) := HT2.out.join HX1.out
  have HB2 : Hid (Below b w W2) := by rw [← hW2]; exact HB1.out.setCell (p := ⟨b, 1, none⟩) (Nat.le_refl _) _
  have HXK2 : Hid (W2.heap[x]? = w.heap[x]?) := by
    show _ = _
    rw [← hW2]; exact (Below.heap_setCell w1 ⟨b, 1, none⟩ _ x HNE.out).trans HXK1.out
  have zW2 : W2.heap.size = w1.heap.size := by rw [← hW2]; simp
  have d0 := HK2.out.cell 0; have g0 := HK2.out.free 0
  simp at d0
  go_wp2_with (at_builtin; refine halt_txt (.tmp 26) (.tmp 27) 161 9 rfl ?_)
  refine unhalt ?_
  refine wpList_append_two (base := base) (b := b) (x := x) rfl (.tmp 26) (.tmp 27) 161 9 rfl 5 i0 Tryz.underlying161 Hi.out Hz0.out Hz1.out Hz2.out (A := A) (n := bs.length) (c := c) (bs := bs) rfl HT2.out HX2.out (.string (ofL (encN k))) (encN k).length (encN k) rfl (src_txt (ofL (encN k)) _) (by omega) (by omega) (by omega) (by have := HXL.out; omega) ?_
  intro A' c' w3 ht3 hx3 hb3 hk3 hxk3
  have HK3 : Hid (Bk w3 b 163 #[.slice A bs.length c, .bool false]) := hk3.trans HK2.out
  have HT3 := Lib.hid ht3; have HX3 := Lib.hid hx3
  have HXK3 : Hid (w3.heap[x]? = w.heap[x]?) := hxk3.trans HXK2.out
  have HB3 : Hid (Below b w w3) := HB2.out.trans (hb3.mono (by omega))
  have hz3 := hb3.size
  have e0 := HK3.out.cell 0; have e1 := HK3.out.free 0
  simp at e0
  clear ht3 hx3 hb3 hk3 hxk3 d0 g0 c0 c1 f1
  go_wp2_with fail
  go_end0
  have hl : (bs ++ encN k).length = bs.length + (encN k).length := by simp
  refine ⟨rfl, ⟨⟨A', c', ?_, ?_, ?_⟩, hlt, by simp; omega, HNE.out, by have := HXL.out; simp; omega⟩, HB3.out.setCell (p := ⟨b, 0, none⟩) (Nat.le_refl _) _, by simp; omega, (Below.heap_setCell w3 ⟨b, 0, none⟩ _ x HNE.out).trans HXK3.out⟩
  · rw [hl]; have := HK3.out.set 0 (.slice A' (bs.length + (encN k).length) c'); show Bk _ _ _ _; simpa using this
  · rw [hl]; exact HT3.out.far rfl _
  · rw [hl]; exact (HT3.out.far (p := ⟨b, 0, none⟩) rfl _).join HX3.out
set_option maxRecDepth 100000 in
set_option maxHeartbeats 2000000 in
theorem wstringX (b base x : Nat) (s : ByteArray) (bs : Bytes) (w : World) (h : Wrx w b base x bs) (hk : s.size ≤ 65536) (hn : bs.length ≤ 1000000) :
    Calls Tryz.prog 142 #[.pointer (some ⟨b, 0, none⟩), .string s] w (WrxEnd b base x (bs ++ encT (toL s)) w) := by
  have HP := Lib.hid (putText_any s hk w)
  have H := Lib.hid h
  have hle : (encT (toL s)).length ≤ 70000 := by
    have h1 := encN_len 5 s.size (by omega)
    have h2 := size_toL s
    unfold encT; rw [List.length_append, ← h2]; omega
  obtain ⟨i0, hi, hz0, hz1, hz2⟩ := info_parts infoByt
  have Hi := Lib.hid hi; have Hz0 := Lib.hid hz0; have Hz1 := Lib.hid hz1; have Hz2 := Lib.hid hz2
  clear h hi hz0 hz1 hz2
  go_enter Tryz.func142, Tryz.ntmps142
  go_wp2_with (go_at_call 193; refine HP.out.mono ?_; rintro e w1 ⟨rfl, hb1⟩; refine halt_ ?_)
  refine unhalt ?_
  have H1 := H.out.below hb1
  obtain ⟨A, c, hk1, ht1, hx1⟩ := H1.ex
  have hlt := H1.lt; have hbase := H1.le
  have HNE := Lib.hid H1.ne; have HXL := Lib.hid H1.xl
  have HB1 : Hid (Below b w w1) := hb1.mono (by have := H.out.lt; have := H.out.le; omega)
  have HXK1 : Hid (w1.heap[x]? = w.heap[x]?) := hb1.block x H.out.xl
  have hz1 := hb1.size
  have HK1 := Lib.hid hk1; have HT1 := Lib.hid ht1; have HX1 := Lib.hid hx1
  have c0 := HK1.out.cell 0; have c1 := HK1.out.cell 1; have f1 := HK1.out.free 1
  simp at c0 c1
  clear hb1 H1 hk1 ht1 hx1
  obtain ⟨W2, hW2⟩ : ∃ W2, w1.setCell ⟨b, 1, none⟩ (.bool false) = W2 := ⟨_, rfl⟩
  have HK2 : Hid (Bk W2 b 163 #[.slice A bs.length c, .bool false]) := by
    rw [← hW2]; have := HK1.out.set 1 (.bool false); show Bk _ _ _ _; simpa using this
  have HT2 : Hid (Txt W2 base b A bs.length c bs) := by rw [← hW2]; exact HT1.out.far rfl _
  have HX2 : Hid (Txt W2 base x A bs.length c bs) := HT2.out.join HX1.out
  have HB2 : Hid (Below b w W2) := by rw [← hW2]; exact HB1.out.setCell (p := ⟨b, 1, none⟩) (Nat.le_refl _) _
  have HXK2 : Hid (W2.heap[x]? = w.heap[x]?) := by
    show _ = _
    rw [← hW2]; exact (Below.heap_setCell w1 ⟨b, 1, none⟩ _ x HNE.out).trans HXK1.out
  have zW2 : W2.heap.size = w1.heap.size := by rw [← hW2]; simp
  have d0 := HK2.out.cell 0; have g0 := HK2.out.free 0
  simp at d0
  go_wp2_with (at_builtin; refine halt_txt (.tmp 25) (.tmp 26) 161 9 rfl ?_)
  refine unhalt ?_
  refine wpList_append_two (base := base) (b := b) (x := x) rfl (.tmp 25) (.tmp 26) 161 9 rfl 5 i0 Tryz.underlying161 Hi.out Hz0.out Hz1.out Hz2.out (A := A) (n := bs.length) (c := c) (bs := bs) rfl HT2.out HX2.out (.string (ofL (encT (toL s)))) (encT (toL s)).length (encT (toL s)) rfl (src_txt (ofL (encT (toL s))) _) (by omega) (by omega) (by omega) (by have := HXL.out; omega) ?_
  intro A' c' w3 ht3 hx3 hb3 hk3 hxk3
  have HK3 : Hid (Bk w3 b 163 #[.slice A bs.length c, .bool false]) := hk3.trans HK2.out
  have HT3 := Lib.hid ht3; have HX3 := Lib.hid hx3
  have HXK3 : Hid (w3.heap[x]? = w.heap[x]?) := hxk3.trans HXK2.out
  have HB3 : Hid (Below b w w3) := HB2.out.trans (hb3.mono (by omega))
  have hz3 := hb3.size
  have e0 := HK3.out.cell 0; have e1 := HK3.out.free 0
  simp at e0
  clear ht3 hx3 hb3 hk3 hxk3 d0 g0 c0 c1 f1
  go_wp2_with fail
  go_end0
  have hl : (bs ++ encT (toL s)).length = bs.length + (encT (toL s)).length := by simp
  refine ⟨rfl, ⟨⟨A', c', ?_, ?_, ?_⟩, hlt, by simp; omega, HNE.out, by have := HXL.out; simp; omega⟩, HB3.out.setCell (p := ⟨b, 0, none⟩) (Nat.le_refl _) _, by simp; omega, (Below.heap_setCell w3 ⟨b, 0, none⟩ _ x HNE.out).trans HXK3.out⟩
  · rw [hl]; have := HK3.out.set 0 (.slice A' (bs.length + (encT (toL s)).length) c'); show Bk _ _ _ _; simpa using this
  · rw [hl]; exact HT3.out.far rfl _
  · rw [hl]; exact (HT3.out.far (p := ⟨b, 0, none⟩) rfl _).join HX3.out
def WxP (b base xb : Nat) (bs : Bytes) (w : World) (v : Value) (w1 : World) : Prop := ∃ A c, v = .slice A bs.length c ∧ Txt w1 base b A bs.length c bs ∧ Txt w1 base xb A bs.length c bs ∧ Below base w w1 ∧ w1.heap[b]? = w.heap[b]? ∧ w1.heap[xb]? = w.heap[xb]?
set_option maxRecDepth 100000 in
set_option maxHeartbeats 4000000 in
theorem wdigestX (b base xb : Nat) (d : Dig) (hd : WfD d) (bs : Bytes) (w : World) (h : Wrx w b base xb bs) (hn : bs.length ≤ 1000000) :
    Calls Tryz.prog 143 #[.pointer (some ⟨b, 0, none⟩), digV d] w (WrxEnd b base xb (bs ++ digB d) w) := by
  obtain ⟨x, y⟩ := d
  obtain ⟨hx0, hx1, hy0, hy1⟩ := hd
  simp only at hx0 hx1 hy0 hy1
  obtain ⟨x, rfl⟩ := Int.eq_ofNat_of_zero_le hx0
  obtain ⟨y, rfl⟩ := Int.eq_ofNat_of_zero_le hy0
  have HX1 := Lib.hid hx1; have HY1 := Lib.hid hy1; clear hx0 hx1 hy0 hy1
  show Calls Tryz.prog 143 #[.pointer (some ⟨b, 0, none⟩), .agg #[.int .u64 x, .int .u64 y]] w _
  obtain ⟨i0, hi, hz0, hz1, hz2⟩ := info_parts infoByt
  have Hi := Lib.hid hi; have Hz0 := Lib.hid hz0; have Hz1 := Lib.hid hz1; have Hz2 := Lib.hid hz2
  have hlt := h.lt; have hle := h.le; have hxl := h.xl
  have HNE := Lib.hid h.ne
  obtain ⟨W0, hW0⟩ : ∃ W0, w.alloc (.cells #[.int .u64 x, .int .u64 y] 30) = W0 := ⟨_, rfl⟩
  have HB0 : Hid (Below w.heap.size w W0) := by rw [← hW0]; exact (Below.refl _ _).alloc (Nat.le_refl _) _
  have HK0 : Hid (Bk W0 w.heap.size 30 #[.int .u64 x, .int .u64 y]) := by rw [← hW0]; exact Bk.new w _ _
  obtain ⟨x0, x1, _, _⟩ := HK0.out.two
  have HR0 : Hid (Wrx W0 b base xb (bs ++ (digB (x, y)).take (8 * 0))) := by
    show Wrx _ _ _ _ _; rw [Nat.mul_zero, List.take_zero, List.append_nil]; exact h.below HB0.out
  have HB1 : Hid (Below b w W0) := HB0.out.mono (by omega)
  have hz0' : w.heap.size ≤ W0.heap.size := HB0.out.size
  have HX0 : Hid (W0.heap[xb]? = w.heap[xb]?) := HB0.out.block xb hxl
  clear hi hz0 hz1 hz2 h
  go_enter Tryz.func143, Tryz.ntmps143
  go_wp2_with fail
  clear hW0
  go_loopw [8] (fun i wr => ∃ k : Nat, k ≤ 2 ∧ i = .int .i64 k ∧ Hid (Wrx wr b base xb (bs ++ (digB (x, y)).take (8 * k))) ∧ Hid (Below b w wr) ∧ w.heap.size ≤ wr.heap.size ∧ Hid (wr.heap[xb]? = w.heap[xb]?)) (fun i _ => 2 - (intOf i).toNat)
  case atStart => exact ⟨0, by omega, rfl, HR0.out, HB1.out, hz0', HX0.out⟩
  case round =>
    obtain ⟨k, hk, rfl, hT, hB, hwz, hX⟩ := hrel
    by_cases hlt2 : k < 2
    · have hlz : (k : Int) < 2 := by omega
      obtain ⟨z, hz, hix, hby⟩ : ∃ z : Nat, Hid (z < 18446744073709551616) ∧ (∀ w, (Instr.index 30 (.agg #[.int .u64 (x : Int), .int .u64 (y : Int)]) (.int .i64 (k : Int))).run Tryz.prog w = .ok (.int .u64 (z : Int)) w) ∧ (∀ j, j < 8 → (digB ((x : Int), (y : Int)))[8 * k + j]? = some (UInt8.ofNat (z / 256 ^ (7 - j) % 256))) := by
        rcases Nat.lt_or_ge k 1 with h1 | h1
        · obtain rfl : k = 0 := by omega
          refine ⟨x, by show _ < _; have := HX1.out; omega, fun w => by kernel_rfl, fun j hj => ?_⟩
          unfold digB
          rw [List.getElem?_append_left (by rw [be_len]; omega), Int.toNat_natCast, show 8 * 0 + j = j by omega]
          exact be_get 8 x j hj
        · obtain rfl : k = 1 := by omega
          refine ⟨y, by show _ < _; have := HY1.out; omega, fun w => by kernel_rfl, fun j hj => ?_⟩
          unfold digB
          rw [List.getElem?_append_right (by rw [be_len]; omega), Int.toNat_natCast, be_len, show 8 * 1 + j - 8 = j by omega]
          exact be_get 8 y j hj
      have HBY := Lib.hid hby; clear hby
      go_wp2_with fail
      obtain ⟨wo, rfl⟩ : ∃ wo : World, wo = wr := ⟨_, rfl⟩
      go_loopw [6] (fun i wr => ∃ j : Nat, j ≤ 8 ∧ i = .int .i64 (56 - 8 * (j : Int)) ∧ Hid (Wrx wr b base xb (bs ++ (digB (x, y)).take (8 * k + j))) ∧ Hid (Below b w wr) ∧ w.heap.size ≤ wr.heap.size ∧ Hid (wr.heap[xb]? = w.heap[xb]?)) (fun i _ => (intOf i + 8).toNat)
      case atStart => exact ⟨0, by omega, rfl, hT, hB, hwz, hX⟩
      case round =>
        obtain ⟨j, hj, rfl, hT, hB, hwz, hX⟩ := hrel
        by_cases hlt : j < 8
        · have hji : (0 : Int) ≤ 56 - 8 * (j : Int) := by omega
          obtain ⟨p, hp⟩ : ∃ p, z / 256 ^ (7 - j) = p := ⟨_, rfl⟩
          have hsh : ∀ yk, Op.shift .shr .u64 (z : Int) yk (56 - 8 * (j : Int)) = pure (.int .u64 (p : Int)) := fun yk => by
            rw [shift_shr .u64 yk _ _ hji (by show _ ≤ (64 : Int); omega), ← hp]
            rw [show (56 - 8 * (j : Int)).toNat = 8 * (7 - j) by omega]
            have e : ((z : Int) / 2 ^ (8 * (7 - j))) = ((z / 256 ^ (7 - j) : Nat) : Int) := by
              rw [show (256 : Nat) = 2 ^ 8 from rfl, ← Nat.pow_mul]; simp
            rw [e]
          have hdv : (z : Int) / 2 ^ (56 - 8 * (j : Int)).toNat = (p : Int) := by
            rw [show (56 - 8 * (j : Int)).toNat = 8 * (7 - j) by omega]
            have e : ((z : Int) / 2 ^ (8 * (7 - j))) = ((z / 256 ^ (7 - j) : Nat) : Int) := by
              rw [show (256 : Nat) = 2 ^ 8 from rfl, ← Nat.pow_mul]; simp
            rw [e, hp]
          obtain ⟨bt, hbt⟩ : ∃ b, UInt8.ofNat (p % 256) = b := ⟨_, rfl⟩
          have hw : IntKind.u8.wrap (p : Int) = (bt.toNat : Int) := by
            rw [IntKind.wrap_u8, ← hbt, toNat_ofNat8 (by omega)]; omega
          have HBJ : Hid ((digB ((x : Int), (y : Int)))[8 * k + j]? = some bt) := by
            show _ = _
            rw [HBY.out j hlt, hp, hbt]
          have HBE : Hid (bs ++ (digB ((x : Int), (y : Int))).take (8 * k + j + 1) = (bs ++ (digB ((x : Int), (y : Int))).take (8 * k + j)) ++ [bt]) := by
            show _ = _; rw [take_snoc HBJ.out, List.append_assoc]
          have hml : (bs ++ (digB ((x : Int), (y : Int))).take (8 * k + j)).length ≤ 1000016 := by rw [List.length_append, List.length_take]; omega
          obtain ⟨cs, hcs⟩ : ∃ cs, bs ++ (digB ((x : Int), (y : Int))).take (8 * k + j) = cs := ⟨_, rfl⟩
          rw [hcs] at hml HBE
          have hT' := hT.out
          rw [hcs] at hT'
          obtain ⟨A, c, hkw, htx, hxx⟩ := hT'.ex
          have HKW := Lib.hid hkw; have HTX := Lib.hid htx; have HXX := Lib.hid hxx; have hxr := hT'.xl
          have hbase := hT'.le
          obtain ⟨y0, y1, f0, _⟩ := hkw.two
          clear hp hbt hcs hkw htx hxx hT' hT x0 x1
          generalize hq : 56 - 8 * (j : Int) = q at *
          have HQ := Lib.hid hq
          have hq0 : 0 ≤ q := by omega
          have hq2 : q ≤ 56 := by omega
          have hbr := HKW.out.lt
          clear hq
          go_wp2_with fail
          refine wp_region_turnGD 11 10 (15 :: 16 :: 17 :: 18 :: 19 :: 20 :: 21 :: 22 :: 23 :: 24 :: 25 :: []) (by kernel_rfl) (by kernel_rfl) (by kernel_rfl) (fun b W => match b with | false => Below wr.heap.size wr W | true => True) (fun b W W' => match b with | false => Below W.heap.size W W' | true => W' = W)
            (fun i v W => if i = 10 then (WxP b base xb (cs ++ [bt]) wr) v W else asPhi 9 ((.pointer (some ⟨b, 0, none⟩)) :: (.pointer (some ⟨b, 0, none⟩)) :: (.pointer (some ⟨b, 0, none⟩)) :: (.pointer (some ⟨b, 0, none⟩)) :: (.slice A cs.length c) :: (.int .u64 (z : Int)) :: (.int .i64 q) :: (.int .u64 (p : Int)) :: (.int .u8 (bt.toNat : Int)) :: (undef) :: (undef) :: []) wr.heap.size 5 #[.int .u8 (bt.toNat : Int)] i v W) ?hRD ?hPD (Below.refl _ _).drew ?stepD ?turnD (by decide) ?tailD
          case hRD =>
            intro bq W W' h1 h2
            cases bq with
            | false => exact Below.trans h1 (Below.mono h2 (Below.size h1))
            | true => trivial
          case hPD =>
            intro bq i v W W' hb h1 h2
            cases bq with
            | true => have h3 : W' = W := h2; rw [h3]; exact h1
            | false =>
              by_cases e : i = 10
              · cases hb e
              · simp only [if_neg e] at h1 ⊢; exact asPhi_keep i v W W' h1 h2
          case stepD =>
            intro bq i o vs W hi hne hbd ho hv hR hphi
            obtain ⟨v0, v1, v2, v3, v4, v5, v6, v7, v8, v9, v10, rfl⟩ := ls11 hv
            simp only [List.zip, List.zipWith, putAll, Act.put, List.setIfInBounds_toArray, List.set]
            have hE : (fun (b : Bool) (W W' : World) => match b with | false => Below W.heap.size W W' | true => W' = W) bq W W := by
              cases bq with
              | false => exact Below.refl _ _
              | true => rfl
            match i, hi, ho with
            | 0, _, rfl =>
              exact .inl ⟨rfl, gives_value (v := .pointer (some ⟨b, 0, none⟩)) (w' := W) (by go_simp) ⟨hE, fun u hu => by cases hu; rfl⟩⟩
            | 1, _, rfl =>
              exact .inl ⟨rfl, gives_value (v := .pointer (some ⟨b, 0, none⟩)) (w' := W) (by go_simp) ⟨hE, fun u hu => by cases hu; rfl⟩⟩
            | 2, _, rfl =>
              have e1 : v1 = _ := hphi ⟨1, .data⟩ (by simp) rfl v1 rfl _ rfl
              subst e1
              exact .inl ⟨rfl, gives_value (v := .pointer (some ⟨b, 0, none⟩)) (w' := W) (by go_simp) ⟨hE, fun u hu => by cases hu; rfl⟩⟩
            | 3, _, rfl =>
              have e2 : v2 = _ := hphi ⟨2, .data⟩ (by simp) rfl v2 rfl _ rfl
              subst e2
              exact .inl ⟨rfl, gives_value (v := .pointer (some ⟨b, 0, none⟩)) (w' := W) (by go_simp) ⟨hE, fun u hu => by cases hu; rfl⟩⟩
            | 4, _, rfl =>
              have e3 : v3 = _ := hphi ⟨3, .data⟩ (by simp) rfl v3 rfl _ rfl
              subst e3
              have hb0 : bq = false := hbd _ rfl ⟨⟨4, .data⟩, by simp, rfl, rfl⟩
              subst hb0
              have y0' := (Below.cell hR (p := ⟨b, 0, none⟩) (by show b < _; omega)).trans y0
              exact .inl ⟨rfl, gives_value (v := .slice A cs.length c) (w' := W) (by go_simp) ⟨hE, fun u hu => by cases hu; rfl⟩⟩
            | 5, _, rfl =>
              exact .inl ⟨rfl, gives_value (v := .int .u64 (z : Int)) (w' := W) (by go_simp) ⟨hE, fun u hu => by cases hu; rfl⟩⟩
            | 6, _, rfl =>
              exact .inl ⟨rfl, gives_value (v := .int .i64 q) (w' := W) (by go_simp) ⟨hE, fun u hu => by cases hu; rfl⟩⟩
            | 7, _, rfl =>
              have e5 : v5 = _ := hphi ⟨5, .data⟩ (by simp) rfl v5 rfl _ rfl
              have e6 : v6 = _ := hphi ⟨6, .data⟩ (by simp) rfl v6 rfl _ rfl
              subst e5 e6
              exact .inl ⟨rfl, gives_value (v := .int .u64 (p : Int)) (w' := W) (by go_simp) ⟨hE, fun u hu => by cases hu; rfl⟩⟩
            | 8, _, rfl =>
              have e7 : v7 = _ := hphi ⟨7, .data⟩ (by simp) rfl v7 rfl _ rfl
              subst e7
              exact .inl ⟨rfl, gives_value (v := .int .u8 (bt.toNat : Int)) (w' := W) (by go_simp) ⟨hE, fun u hu => by cases hu; rfl⟩⟩
            | 9, _, rfl =>
              have e8 : v8 = _ := hphi ⟨8, .data⟩ (by simp) rfl v8 rfl _ rfl
              subst e8
              have hb0 : bq = false := hbd _ rfl ⟨⟨9, .data⟩, by simp, rfl, rfl⟩
              subst hb0
              have y0' := (Below.cell hR (p := ⟨b, 0, none⟩) (by show b < _; omega)).trans y0
              exact .inl ⟨rfl, gives_value (v := .slice (some ⟨W.heap.size, 0, none⟩) 1 1) (w' := W.alloc (.cells #[.int .u8 (bt.toNat : Int)] 5)) (by go_simp) ⟨(Below.refl _ W).alloc (Nat.le_refl _) _, W.heap.size, rfl, Below.size hR, Bk.new W _ _⟩⟩
            | 10, _, _ => exact absurd rfl hne
            | i + 11, hi, _ => exact absurd hi (by omega)
          case turnD =>
            intro o vs W ho hv hR hphi
            obtain ⟨v0, v1, v2, v3, v4, v5, v6, v7, v8, v9, v10, rfl⟩ := ls11 hv
            cases ho
            simp only [List.zip, List.zipWith, putAll, Act.put, List.setIfInBounds_toArray, List.set]
            have e4 : v4 = _ := hphi ⟨4, .data⟩ (by simp) rfl v4 rfl _ rfl
            obtain ⟨ab, ea, hab, hak⟩ : ∃ b0, v9 = .slice (some ⟨b0, 0, none⟩) 1 1 ∧ wr.heap.size ≤ b0 ∧ Bk W b0 5 #[.int .u8 (bt.toNat : Int)] := hphi ⟨9, .data⟩ (by simp) rfl v9 rfl
            subst e4 ea
            have hR : Below wr.heap.size wr W := hR
            have hall : ∀ w1 : World, (∀ b, wr.heap.size ≤ b → b < W.heap.size → w1.heap[b]? = W.heap[b]?) → ∀ (i : Nat) (u : Value), i ≠ 10 → (if i = 10 then (WxP b base xb (cs ++ [bt]) wr) u W else asPhi 9 ((.pointer (some ⟨b, 0, none⟩)) :: (.pointer (some ⟨b, 0, none⟩)) :: (.pointer (some ⟨b, 0, none⟩)) :: (.pointer (some ⟨b, 0, none⟩)) :: (.slice A cs.length c) :: (.int .u64 (z : Int)) :: (.int .i64 q) :: (.int .u64 (p : Int)) :: (.int .u8 (bt.toNat : Int)) :: (undef) :: (undef) :: []) wr.heap.size 5 #[.int .u8 (bt.toNat : Int)] i u W) → (if i = 10 then (WxP b base xb (cs ++ [bt]) wr) u w1 else asPhi 9 ((.pointer (some ⟨b, 0, none⟩)) :: (.pointer (some ⟨b, 0, none⟩)) :: (.pointer (some ⟨b, 0, none⟩)) :: (.pointer (some ⟨b, 0, none⟩)) :: (.slice A cs.length c) :: (.int .u64 (z : Int)) :: (.int .i64 q) :: (.int .u64 (p : Int)) :: (.int .u8 (bt.toNat : Int)) :: (undef) :: (undef) :: []) wr.heap.size 5 #[.int .u8 (bt.toNat : Int)] i u w1) := fun w1 hk i u hi hu => by
              simp only [if_neg hi] at hu ⊢
              unfold asPhi at hu ⊢
              by_cases e : i = 9
              · rw [if_pos e] at hu ⊢
                obtain ⟨b0, p1, p2, p3⟩ := hu
                exact ⟨b0, p1, p2, (hk b0 p2 p3.lt).trans p3⟩
              · rw [if_neg e] at hu ⊢; exact hu
            refine .inl ⟨rfl, ?_⟩
            obtain ⟨A5, c5, w1, hr5, ht5, hb5, hk5, hfar⟩ := HTX.out.run_append_far (P := Tryz.prog) hR 161 161 161 5 i0 Tryz.underlying161 Hi.out Hz0.out Hz1.out Hz2.out (.slice (some ⟨ab, 0, none⟩) 1 1) 1 [bt] (Src.ofSlice _ Tryz.underlying161 ⟨ab, 0, none⟩ 1 1 (bc [bt]) rfl (fun j u hu => by rw [Addr.add_lit, Nat.zero_add, hak.cell]; simpa [bc] using hu) (fun u hu => by simp [bc] at hu; subst hu; rfl)) (by omega) (by have := hR.size; omega) (by have := hR.size; omega)
            obtain ⟨A6, c6, w6, hr6, hx5, _, hxk5, _⟩ := HXX.out.run_append_far (P := Tryz.prog) hR 161 161 161 5 i0 Tryz.underlying161 Hi.out Hz0.out Hz1.out Hz2.out (.slice (some ⟨ab, 0, none⟩) 1 1) 1 [bt] (Src.ofSlice _ Tryz.underlying161 ⟨ab, 0, none⟩ 1 1 (bc [bt]) rfl (fun j u hu => by rw [Addr.add_lit, Nat.zero_add, hak.cell]; simpa [bc] using hu) (fun u hu => by simp [bc] at hu; subst hu; rfl)) (by omega) (by have := hR.size; omega) (by have := hR.size; omega)
            have e6 := hr5.symm.trans hr6
            simp only [Result.ok.injEq, Value.slice.injEq, true_and] at e6
            obtain ⟨⟨rfl, rfl⟩, rfl⟩ := e6
            refine gives_append (.tmp 19) (.tmp 24) 161 rfl rfl rfl hr5 ⟨trivial, ⟨A5, c5, by simp, by simpa using ht5, by simpa using hx5, ((hR.mono (by omega)).trans hb5), hk5.trans (hR.block b hbr), hxk5.trans (hR.block xb hxr)⟩, hall w1 hfar⟩
          case tailD =>
            intro vs W hv hR hphi
            obtain ⟨v0, v1, v2, v3, v4, v5, v6, v7, v8, v9, v10, rfl⟩ := ls11 hv
            simp only [List.zip, List.zipWith, putAll, Act.put, List.setIfInBounds_toArray, List.set, List.drop]
            have e0 : v0 = _ := hphi 0 v0 rfl _ rfl
            have e1 : v1 = _ := hphi 1 v1 rfl _ rfl
            have e2 : v2 = _ := hphi 2 v2 rfl _ rfl
            have e3 : v3 = _ := hphi 3 v3 rfl _ rfl
            have e4 : v4 = _ := hphi 4 v4 rfl _ rfl
            have e5 : v5 = _ := hphi 5 v5 rfl _ rfl
            have e6 : v6 = _ := hphi 6 v6 rfl _ rfl
            have e7 : v7 = _ := hphi 7 v7 rfl _ rfl
            have e8 : v8 = _ := hphi 8 v8 rfl _ rfl
            obtain ⟨ab, ea, hab, hak⟩ : ∃ b0, v9 = .slice (some ⟨b0, 0, none⟩) 1 1 ∧ wr.heap.size ≤ b0 ∧ Bk W b0 5 #[.int .u8 (bt.toNat : Int)] := hphi 9 v9 rfl
            have em : (WxP b base xb (cs ++ [bt]) wr) v10 W := hphi 10 v10 rfl
            subst e0 e1 e2 e3 e4 e5 e6 e7 e8 ea
            clear hphi hv hR hak hab
            obtain ⟨A5, c5, ev, ht5, hx5, hb5, hk5, hxk5⟩ := em
            subst ev
            have HK5 : Hid (Bk W b 163 #[.slice A cs.length c, .bool false]) := hk5.trans HKW.out
            have HT5 := Lib.hid ht5; have HX5 := Lib.hid hx5
            have HXK : Hid (W.heap[xb]? = w.heap[xb]?) := hxk5.trans hX.out
            have hz5 := hb5.size
            have HB5 : Hid (Below b w W) := hB.out.trans (hb5.mono (by omega))
            obtain ⟨z0, z1, g0, _⟩ := HK5.out.two
            have hcl : (cs ++ [bt]).length = cs.length + 1 := by simp
            clear ht5 hx5 hb5 hk5 hxk5 y0 y1 f0
            go_wp2_with fail
            go_roundw
            case rel =>
              refine ⟨j + 1, by omega, by rw [← HQ.out]; congr 1; omega, ?_, HB5.out.setCell (p := ⟨b, 0, none⟩) (Nat.le_refl _) _, by simp [World.setCell]; omega, (Below.heap_setCell W ⟨b, 0, none⟩ _ xb HNE.out).trans HXK.out⟩
              show Wrx _ _ _ _ (bs ++ (digB ((x : Int), (y : Int))).take (8 * k + j + 1))
              rw [HBE.out]
              refine ⟨⟨A5, c5, ?_, HT5.out.far rfl _, (HT5.out.far (p := ⟨b, 0, none⟩) rfl _).join HX5.out⟩, by omega, by simp [World.setCell]; omega, HNE.out, by simp [World.setCell]; omega⟩
              have := HK5.out.set 0 (.slice A5 (cs ++ [bt]).length c5)
              simpa using this
            case measure => have := HQ.out; simp [intOf]; omega
        · have hji : ¬ (0 : Int) ≤ 56 - 8 * (j : Int) := by omega
          have HJ8 : Hid (j = 8) := by show _ = _; omega
          generalize hq : 56 - 8 * (j : Int) = q at *
          clear hq
          go_wp2_with fail
          go_roundw
          case rel => exact ⟨k + 1, by omega, by go_num, by show Wrx _ _ _ _ _; have h1 := hT.out; rw [HJ8.out] at h1; exact h1, hB.out, hwz, hX.out⟩
          case measure => simp [intOf]; omega
    · have hlz : ¬ (k : Int) < 2 := by omega
      have HK2 : Hid (k = 2) := by show _ = _; omega
      have hT2 := hT.out
      rw [HK2.out, List.take_of_length_le (by rw [digB_len]; omega)] at hT2
      have HT2 := Lib.hid hT2
      clear hT2
      go_wp2_with fail
      go_end0
      exact ⟨rfl, HT2.out, hB.out, hwz, hX.out⟩
end Go.Proofs.YtmdhlkkekidknaaGreatDoor
