/-
  Lemmas: The reference's entry and Get. TreeReads: the law.
-/
import Derived.Test.YtmdhlkkekidknaaGreatDoorV12
import Derived.Test.YtmdhlkkekidknaaGreatDoorV14
import Derived.Test.YtmdhlkkekidknaaGreatDoorV15

namespace Go.Proofs.YtmdhlkkekidknaaGreatDoor
open Go.RowKit

theorem res_cellEn9 {fn : Func} {c i : Tmp} (h : fn.results = #[.cell c 102, .tmp i]) {w : World} {a : Array Value} {b : Nat} {x0 x1 x2 x3 v : Value} (ha : a[c]?.getD undef = .pointer (some ⟨b, 0, none⟩)) (hk : Bk w b 102 #[x0, x1, x2, x3]) (hv : a[i]?.getD undef = v) :
    (results fn a).run Tryz.prog w = .ok (.tuple #[.agg #[x0, x1, x2, x3], v]) w := by
  obtain ⟨h0, h1, h2, h3⟩ := hk.four
  simp [results, h, ha, hv, go_sem, h0, h1, h2, h3]
theorem Bk.set49 {w : World} {b : Nat} {t : TypeId} {x y z u : Value} (h : Bk w b t #[x, y, z, u]) (x' y' z' u' : Value) : Bk ((((w.setCell ⟨b, 0, none⟩ x').setCell ⟨b, 1, none⟩ y').setCell ⟨b, 2, none⟩ z').setCell ⟨b, 3, none⟩ u') b t #[x', y', z', u'] := by
  have := (((h.set 0 x').set 1 y').set 2 z').set 3 u'
  simpa using this
theorem below_set49 {B b : Nat} {w w' : World} (h : Below B w w') (hb : B ≤ b) (x y z u : Value) : Below B w ((((w'.setCell ⟨b, 0, none⟩ x).setCell ⟨b, 1, none⟩ y).setCell ⟨b, 2, none⟩ z).setCell ⟨b, 3, none⟩ u) :=
  (((h.setCell (p := ⟨b, 0, none⟩) hb x).setCell (p := ⟨b, 1, none⟩) hb y).setCell (p := ⟨b, 2, none⟩) hb z).setCell (p := ⟨b, 3, none⟩) hb u
def EyE (es : List Ent) (n : ByteArray) (w : World) (e : Ending) (w' : World) : Prop :=
  ((∃ x, entN es n = some x ∧ e = .returned (.tuple #[.agg #[.string x.nm, .bool x.dir, .int .u64 x.dg.1, .int .u64 x.dg.2], .bool true])) ∨ (entN es n = none ∧ e = .returned (.tuple #[.agg #[.string ⟨#[]⟩, .bool false, .int .u64 0, .int .u64 0], .bool false]))) ∧ Below w.heap.size w w'
set_option maxRecDepth 100000 in
set_option maxHeartbeats 8000000 in
theorem entry9_any (o : Ob) (s : Osl) (B : Nat) (nm : ByteArray) (w : World) (hm : ObM w B o s) (hB : B ≤ w.heap.size) :
    Calls Tryz.prog 76 #[obV o s, .string nm] w (EyE o.ents nm w) := by
  have HEL := Lib.hid hm.elen
  have hlen : s.en ≤ maxLen := Nat.le_trans hm.ele hm.emx
  have hlen' : s.en ≤ 9223372036854775807 := by unfold maxLen at hlen; exact hlen
  obtain ⟨W, hW⟩ : ∃ W, (w.alloc (.cells (obC o s) 82)).alloc (.cells #[.string ⟨#[]⟩, .bool false, .int .u64 0, .int .u64 0] 102) = W := ⟨_, rfl⟩
  have HB0 : Hid (Below w.heap.size w W) := by rw [← hW]; exact ((Below.refl _ w).alloc (Nat.le_refl _) _).alloc (by simp) _
  have HK : Hid (Bk W w.heap.size 82 (obC o s)) := by rw [← hW]; exact (Bk.new w _ _).alloc _
  have HZ : Hid (Bk W (w.heap.size + 1) 102 #[.string ⟨#[]⟩, .bool false, .int .u64 0, .int .u64 0]) := by
    rw [← hW]
    have := Bk.new (w.alloc (.cells (obC o s) 82)) 102 #[.string ⟨#[]⟩, .bool false, .int .u64 0, .int .u64 0]
    rw [World.size_alloc] at this; exact this
  have HE : Hid (Sl W B 4 s.eA s.en (flat enC o.ents)) := hm.e.below HB0.out hB
  obtain ⟨es, hes⟩ : ∃ es, o.ents = es := ⟨_, rfl⟩
  rw [hes] at HE HEL ⊢
  obtain ⟨kd, dat, ents, tree, pars, auth, time, msg⟩ := o
  obtain ⟨eA, en, ec, pA, pn, pc⟩ := s
  have HW := Lib.hid hW
  clear hm hlen hes hW
  simp only [obV, obC] at HK HW HE HEL hlen' ⊢
  obtain ⟨k0, k1, k2, k3, k4, k5, k6, k7, k8⟩ := HK.out.nine
  obtain ⟨z0, z1, z2, z3⟩ := HZ.out.four
  have g0 := HZ.out.free 0; have g1 := HZ.out.free 1; have g2 := HZ.out.free 2; have g3 := HZ.out.free 3
  go_enter Tryz.func76, Tryz.ntmps76
  go_wp2_with fail
  rw [HW.out]
  go_loopw [6] (fun i wr => ∃ k : Nat, k ≤ en ∧ i = .int .i64 (k : Int) ∧ wr = W ∧ Hid (∀ (i : Nat) (x : Ent), i < k → es[i]? = some x → x.nm ≠ nm)) (fun i _ => en - (intOf i).toNat)
  case atStart => exact ⟨0, Nat.zero_le _, rfl, rfl, fun i x h => absurd h (Nat.not_lt_zero _)⟩
  case round =>
    obtain ⟨k, hk, rfl, rfl, hN⟩ := hrel
    by_cases hlt : k < en
    · have hlz : (k : Int) < (en : Int) := by omega
      obtain ⟨b, off, x, rfl, hb, hx, y0, y1, y2, y3⟩ := HE.out.en hlt
      have HX := Lib.hid hx
      clear hx
      obtain ⟨xn, xd, ⟨x1, x2⟩⟩ := x
      simp only at y0 y1 y2 y3
      have t2 := str_dec xn nm
      by_cases he : xn = nm
      · have HR : Hid (entN es nm = some ⟨xn, xd, (x1, x2)⟩) := entN_at hN.out HX.out he
        rw [decide_eq_true he] at t2
        clear he hN
        go_wp2_with fail
        exact bodyPost_ret (res_cellEn9 Tryz.results76 rfl (HZ.out.set49 _ _ _ _) rfl) rfl ⟨.inl ⟨_, HR.out, rfl⟩, below_set49 HB0.out (by omega) _ _ _ _⟩
      · rw [decide_eq_false he] at t2
        have HN : Hid (∀ (i : Nat) (x : Ent), i < k + 1 → es[i]? = some x → x.nm ≠ nm) := fun i x hi h => by
          by_cases e : i = k
          · subst e; rw [HX.out] at h; rw [← Option.some.inj h]; exact he
          · exact hN.out i x (by omega) h
        clear he hN
        go_wp2_with fail
        go_roundw
        case rel => exact ⟨k + 1, hlt, by go_num, trivial, HN.out⟩
        case measure => simp [intOf]; omega
    · have hlz : ¬ (k : Int) < (en : Int) := by omega
      have HR : Hid (entN es nm = none) := entN_no (fun i x h => hN.out i x (by have := (List.getElem?_eq_some_iff.1 h).1; rw [HEL.out] at this; omega) h)
      clear hN
      go_wp2_with fail
      exact bodyPost_ret (res_cellEn9 Tryz.results76 rfl (HZ.out.set49 _ _ _ _) rfl) rfl ⟨.inr ⟨HR.out, rfl⟩, below_set49 HB0.out (by omega) _ _ _ _⟩
theorem split_len {s : ByteArray} (h : deN s = true) : (splitS (bl s)).length = (splitS (bl (rsN s))).length + 1 := by
  rw [cut_deep h, splitS_seg _ _ (fsN_nosl s)]; rfl
theorem split_pos (s : ByteArray) : 1 ≤ (splitS (bl s)).length := List.length_pos_iff.2 (splitS_ne _)
set_option maxRecDepth 100000 in
set_option maxHeartbeats 16000000 in
theorem rget9_any (A : Option Addr) (np cp B : Nat) (p : List Itm) (d : Dig) (path : ByteArray) (w : World) (h0 : Sl w B 3 A np (flat itC p)) (hB : B ≤ w.heap.size) (hn : np ≤ 1000000) (hp : PlOk p) (hps : path.size ≤ 1000000) :
    Calls Tryz.prog 33 #[.slice A np cp, digV d, .string path] w (TgE p d path w) := by
  obtain ⟨d1, d2⟩ := d
  have HP := Lib.hid hp
  obtain ⟨W, hW⟩ : ∃ W, w.alloc (.cells #[.int .u64 d1, .int .u64 d2] 30) = W := ⟨_, rfl⟩
  have HB0 : Hid (Below w.heap.size w W) := by rw [← hW]; exact (Below.refl _ w).alloc (Nat.le_refl _) _
  have HK : Hid (Bk W w.heap.size 30 #[.int .u64 d1, .int .u64 d2]) := by rw [← hW]; exact Bk.new w _ _
  have zk : w.heap.size < W.heap.size := HK.out.lt
  have H0 := Lib.hid h0
  have HC := Lib.hid (path9_any path W hps)
  have HW := Lib.hid hW
  unfold TgE
  obtain ⟨⟨r, z⟩, hr⟩ : ∃ r, gtR p (d1, d2) path = r := ⟨_, rfl⟩
  rw [hr]
  have HRZ := Lib.hid hr
  simp only [digV]
  clear h0 hp hW hr
  go_enter Tryz.func33, Tryz.ntmps33
  go_wp2_with fail
  rw [HW.out]
  refine HC.out.mono ?_
  rintro e w1 ⟨rfl, hb⟩
  have HB1 : Hid (Below w.heap.size w w1) := HB0.out.trans (hb.mono HB0.out.size)
  have HK1 := Lib.hid (HK.out.below hb zk)
  clear hb HC HW
  cases hpb : pathB path with
  | false =>
    have HV : Hid (r = ⟨#[]⟩ ∧ z = 6) := by have h := HRZ.out; unfold gtR at h; rw [if_neg (by rw [hpb]; simp)] at h; injection h with h1 h2; exact ⟨h1.symm, h2.symm⟩
    clear hpb
    go_wp2_with fail
    go_ret2
    exact ⟨by rw [HV.out.1, HV.out.2]; rfl, HB1.out⟩
  | true =>
    have HRR : Hid (getF p (splitS (bl path)).length (d1, d2) path = (r, z)) := by have h := HRZ.out; unfold gtR at h; rw [if_pos hpb] at h; exact h
    have HPB := Lib.hid hpb
    clear hpb
    go_wp2_with fail
    go_loopw [2] (fun q wr => ∃ (s : ByteArray) (g1 g2 : Int) (k : Nat), q = .string s ∧ Hid (pathB s = true) ∧ Hid ((splitS (bl s)).length ≤ k ∧ getF p k (g1, g2) s = (r, z)) ∧ Hid (Bk wr w.heap.size 30 #[.int .u64 g1, .int .u64 g2]) ∧ Hid (Below w.heap.size w wr)) (fun q _ => match q with | .string s => s.size | _ => 0)
    case atStart => exact ⟨path, d1, d2, _, rfl, HPB.out, ⟨Nat.le_refl _, HRR.out⟩, HK1.out, HB1.out⟩
    case round =>
      obtain ⟨s, g1, g2, k, rfl, hpb, hg, hK, hBel⟩ := hrel
      have HPS := Lib.hid hpb.out; have HKR := Lib.hid hK.out; have HBE := Lib.hid hBel.out
      obtain ⟨hkl, hgf⟩ := hg.out
      obtain ⟨k, rfl⟩ : ∃ j, k = j + 1 := ⟨k - 1, by have := split_pos s; omega⟩
      have HGF := Lib.hid hgf; have HKL := Lib.hid hkl
      have zr : w.heap.size < wr.heap.size := HKR.out.lt
      have HC := Lib.hid (get8_any A np cp B p (g1, g2) wr (H0.out.below HBE.out hB) (by omega) hn HP.out)
      unfold Gr8E at HC
      simp only [digV] at HC
      obtain ⟨x0, x1, _, _⟩ := HKR.out.two
      have hsl : s.size ≤ 100 := path_len HPS.out
      clear hpb hg hK hBel hgf hkl
      go_wp2_with fail
      refine HC.out.mono ?_
      rintro e w2 ⟨hq, hb⟩
      have HB2 : Hid (Below w.heap.size w w2) := HBE.out.trans (hb.mono HBE.out.size)
      have HK2 := Lib.hid (HKR.out.below hb zr)
      have zw2 : w.heap.size < w2.heap.size := HK2.out.lt
      clear hb HC x0 x1 HKR HBE
      rcases hq with ⟨o, sl, hg, ho, rfl, hm⟩ | ⟨hg, rfl⟩
      case inr =>
        have HV : Hid (r = ⟨#[]⟩ ∧ z = 8) := by have h := HGF.out; rw [getF_none hg] at h; injection h with h1 h2; exact ⟨h1.symm, h2.symm⟩
        clear hg
        simp only [obV, obC, zOb, zOs]
        go_wp2_with fail
        go_ret2
        exact ⟨by rw [HV.out.1, HV.out.2]; rfl, HB2.out.alloc HB2.out.size _⟩
      case inl =>
        have HGG := Lib.hid hg; have HO := Lib.hid ho
        obtain ⟨W3, hW3⟩ : ∃ W3, w2.alloc (.cells (obC o sl) 82) = W3 := ⟨_, rfl⟩
        have hb3 : Below w2.heap.size w2 W3 := by rw [← hW3]; exact (Below.refl _ w2).alloc (Nat.le_refl _) _
        have HB3 : Hid (Below w.heap.size w W3) := HB2.out.trans (hb3.mono HB2.out.size)
        have HK3 := Lib.hid (HK2.out.below hb3 zw2)
        have HO3 : Hid (Bk W3 w2.heap.size 82 (obC o sl)) := by rw [← hW3]; exact Bk.new w2 _ _
        have HM3 : Hid (ObM W3 W3.heap.size o sl) := (hm.below hb3 (Nat.le_refl _)).more hb3.size
        have z3 : w2.heap.size < W3.heap.size := HO3.out.lt
        have HC := Lib.hid (cut9_any s W3 (by omega))
        unfold CutEnd at HC
        have HW3 := Lib.hid hW3
        simp only [obV, obC]
        unfold obC at HW3 HO3
        obtain ⟨q0, q1, q2, q3, q4, q5, q6, q7, q8⟩ := HO3.out.nine
        rw [← HW3.out] at q0
        clear hg ho hW3 hm hb3 q1 q2 q3 q4 q5 q6 q7 q8 HB2 HK2
        by_cases hk : o.kind = 2
        case neg =>
          have t1 : (o.kind != 2) = true := by rw [bne_iff_ne]; exact hk
          have HV : Hid (r = ⟨#[]⟩ ∧ z = 9) := by have h := HGF.out; rw [getF_kind HGG.out hk] at h; injection h with h1 h2; exact ⟨h1.symm, h2.symm⟩
          clear hk
          go_wp2_with fail
          rw [HW3.out]
          go_ret2
          exact ⟨by rw [HV.out.1, HV.out.2]; rfl, HB3.out⟩
        case pos =>
          have t1 : (o.kind != 2) = false := by rw [hk]; rfl
          have HKD := Lib.hid hk
          clear hk
          go_wp2_with fail
          rw [HW3.out]
          refine HC.out.mono ?_
          rintro e w4 ⟨a0, b0, m0, rfl, hcr, hb⟩
          obtain ⟨ea, eb, em⟩ := cutR_eq hcr
          have HEA := Lib.hid ea; have HEB := Lib.hid eb; have HEM := Lib.hid em
          have HB4 : Hid (Below w.heap.size w w4) := HB3.out.trans (hb.mono HB3.out.size)
          have HK4 := Lib.hid (HK3.out.below hb HK3.out.lt)
          have HO4 := Lib.hid (HO3.out.below hb z3)
          have HM4 : Hid (ObM w4 w4.heap.size o sl) := (HM3.out.below hb (Nat.le_refl _)).more hb.size
          have HC := Lib.hid (entry9_any o sl w4.heap.size a0 w4 HM4.out (Nat.le_refl _))
          unfold EyE at HC
          simp only [obV, obC] at HC
          obtain ⟨q0, q1, q2, q3, q4, q5, q6, q7, q8⟩ := HO4.out.nine
          clear hb HW3 hcr ea eb em HB3 HK3 HO3 HM3
          go_wp2_with fail
          refine HC.out.mono ?_
          rintro e w5 ⟨hq, hb⟩
          have HB5 : Hid (Below w.heap.size w w5) := HB4.out.trans (hb.mono HB4.out.size)
          have HK5 := Lib.hid (HK4.out.below hb HK4.out.lt)
          have zw5 : w.heap.size < w5.heap.size := HK5.out.lt
          clear hb HC q0 q1 q2 q3 q4 q5 q6 q7 q8 HB4 HK4 HO4 HM4
          rcases hq with ⟨x, hx, rfl⟩ | ⟨hx, rfl⟩
          case inr =>
            have HV : Hid (r = ⟨#[]⟩ ∧ z = 8) := by
              have h := HGF.out
              rw [HEA.out] at hx
              rw [getF_ent HGG.out HKD.out hx] at h; injection h with h1 h2; exact ⟨h1.symm, h2.symm⟩
            clear hx
            go_wp2_with fail
            go_ret2
            exact ⟨by rw [HV.out.1, HV.out.2]; rfl, HB5.out.alloc HB5.out.size _⟩
          case inl =>
            obtain ⟨xn, xd, ⟨x1, x2⟩⟩ := x
            have HX : Hid (entN o.ents (fsN s) = some ⟨xn, xd, (x1, x2)⟩) := by rw [HEA.out] at hx; exact hx
            simp only
            obtain ⟨W6, hW6⟩ : ∃ W, w5.alloc (.cells #[.string xn, .bool xd, .int .u64 x1, .int .u64 x2] 102) = W := ⟨_, rfl⟩
            have hb6 : Below w5.heap.size w5 W6 := by rw [← hW6]; exact (Below.refl _ w5).alloc (Nat.le_refl _) _
            have HB6 : Hid (Below w.heap.size w W6) := HB5.out.trans (hb6.mono HB5.out.size)
            have HK6 := Lib.hid (HK5.out.below hb6 zw5)
            have HX6 : Hid (Bk W6 w5.heap.size 102 #[.string xn, .bool xd, .int .u64 x1, .int .u64 x2]) := by rw [← hW6]; exact Bk.new w5 _ _
            obtain ⟨v0, v1, v2, v3⟩ := HX6.out.four
            obtain ⟨u0, u1, _, _⟩ := HK6.out.two
            have f0 := HK6.out.free 0; have f1 := HK6.out.free 1
            clear hx hb6 HB5 HK5
            by_cases hxd : xd = m0
            case neg =>
              have t4 : (xd != m0) = true := by rw [bne_iff_ne]; exact hxd
              have HV : Hid (r = ⟨#[]⟩ ∧ z = 9) := by
                have h := HGF.out
                unfold getF at h
                rw [HGG.out] at h
                simp only [if_pos HKD.out, HX.out] at h
                rw [if_neg (by rw [← HEM.out]; exact hxd)] at h
                injection h with h1 h2; exact ⟨h1.symm, h2.symm⟩
              cases xd <;> cases m0
              all_goals first | exact absurd rfl hxd | skip
              all_goals
                clear hxd
                go_wp2_with fail
                go_ret2
                exact ⟨by rw [HV.out.1, HV.out.2]; rfl, HB6.out⟩
            case pos =>
              subst hxd
              have zw6 : w.heap.size < W6.heap.size := HK6.out.lt
              obtain ⟨W7, hW7⟩ : ∃ W, (W6.setCell ⟨w.heap.size, 0, none⟩ (.int .u64 x1)).setCell ⟨w.heap.size, 1, none⟩ (.int .u64 x2) = W := ⟨_, rfl⟩
              have HB7 : Hid (Below w.heap.size w W7) := by rw [← hW7]; exact below_set2 HB6.out (Nat.le_refl _) _ _
              have HK7 : Hid (Bk W7 w.heap.size 30 #[.int .u64 x1, .int .u64 x2]) := by rw [← hW7]; exact HK6.out.set2 _ _
              cases xd with
              | true =>
                have HD : Hid (deN s = true) := HEM.out.symm
                have hrs := path_rest HPS.out HD.out
                have HG2 : Hid ((splitS (bl (rsN s))).length ≤ k ∧ getF p k (x1, x2) (rsN s) = (r, z)) := by
                  refine ⟨by have := split_len HD.out; have := HKL.out; omega, ?_⟩
                  have h := HGF.out
                  rw [getF_sub HGG.out HKD.out HX.out rfl HD.out] at h
                  exact h
                have HP2 := Lib.hid hrs.1
                have hsz : b0.size < s.size := by rw [HEB.out]; exact hrs.2
                clear hrs
                go_wp2_with fail
                go_roundw
                case rel => exact ⟨b0, x1, x2, k, rfl, by rw [HEB.out]; exact HP2.out, by rw [HEB.out]; exact HG2.out, HK7.out, HB7.out⟩
                case measure => exact hsz
              | false =>
                have HD : Hid (deN s = false) := HEM.out.symm
                have HDP : Hid (datP p (x1, x2) = (r, z)) := by
                  have h := HGF.out
                  rw [getF_file HGG.out HKD.out HX.out rfl HD.out] at h
                  exact h
                have HC := Lib.hid (get8_any A np cp B p (x1, x2) W7 (H0.out.below HB7.out hB) (by have := HB7.out.size; omega) hn HP.out)
                unfold Gr8E at HC
                simp only [digV] at HC
                obtain ⟨j0, j1, _, _⟩ := HK7.out.two
                go_wp2_with fail
                refine HC.out.mono ?_
                rintro e w8 ⟨hq, hb⟩
                have HB8 : Hid (Below w.heap.size w w8) := HB7.out.trans (hb.mono HB7.out.size)
                clear hb HC v0 v1 v2 v3 u0 u1 f0 f1 j0 j1 hW6 hW7
                rcases hq with ⟨o2, s2, hg2, ho2, rfl, hm2⟩ | ⟨hg2, rfl⟩
                case inr =>
                  have HV : Hid (r = ⟨#[]⟩ ∧ z = 8) := by have h := HDP.out; rw [datP_none hg2] at h; injection h with h1 h2; exact ⟨h1.symm, h2.symm⟩
                  clear hg2
                  simp only [obV, obC, zOb, zOs]
                  go_wp2_with fail
                  go_ret2
                  exact ⟨by rw [HV.out.1, HV.out.2]; rfl, HB8.out.alloc HB8.out.size _⟩
                case inl =>
                  clear ho2 hm2
                  simp only [obV, obC]
                  obtain ⟨W9, hW9⟩ : ∃ W, w8.alloc (.cells #[.int .i64 o2.kind, .string o2.data, .slice s2.eA s2.en s2.ec, .int .u64 o2.tree.1, .int .u64 o2.tree.2, .slice s2.pA s2.pn s2.pc, .string o2.auth, .int .i64 o2.time, .string o2.msg] 82) = W := ⟨_, rfl⟩
                  have HK9 : Hid (Bk W9 w8.heap.size 82 #[.int .i64 o2.kind, .string o2.data, .slice s2.eA s2.en s2.ec, .int .u64 o2.tree.1, .int .u64 o2.tree.2, .slice s2.pA s2.pn s2.pc, .string o2.auth, .int .i64 o2.time, .string o2.msg]) := by rw [← hW9]; exact Bk.new w8 _ _
                  obtain ⟨k0, k1, _⟩ := HK9.out.nine
                  rw [← hW9] at k0 k1
                  by_cases hk1 : o2.kind = 1
                  case neg =>
                    have t5 : (o2.kind != 1) = true := by rw [bne_iff_ne]; exact hk1
                    have HV : Hid (r = ⟨#[]⟩ ∧ z = 9) := by have h := HDP.out; rw [datP_kind hg2 hk1] at h; injection h with h1 h2; exact ⟨h1.symm, h2.symm⟩
                    clear hk1 hg2 hW9
                    go_wp2_with fail
                    go_ret2
                    exact ⟨by rw [HV.out.1, HV.out.2]; rfl, HB8.out.alloc HB8.out.size _⟩
                  case pos =>
                    have t5 : (o2.kind != 1) = false := by rw [hk1]; rfl
                    have HV : Hid (r = o2.data ∧ z = 0) := by have h := HDP.out; rw [datP_some hg2 hk1] at h; injection h with h1 h2; exact ⟨h1.symm, h2.symm⟩
                    clear hk1 hg2 hW9
                    go_wp2_with fail
                    go_ret2
                    exact ⟨by rw [HV.out.1, HV.out.2]; rfl, HB8.out.alloc HB8.out.size _⟩
end Go.Proofs.YtmdhlkkekidknaaGreatDoor

namespace Go.Proofs.YtmdhlkkekidknaaGreatDoor
open Go.RowKit

def LodV (p : List Itm) (d : Dig) (fs : List Fl) (err : Int) : Prop := (LdSeq p d fs ∧ err = 0) ∨ (LodE p d err ∧ err ≠ 0 ∧ fs = [])
theorem LodV.uniq {p : List Itm} {d : Dig} {fs gs : List Fl} {x y : Int} (h : LodV p d fs x) (g : LodV p d gs y) : fs = gs ∧ x = y := by
  rcases h with ⟨h1, h2⟩ | ⟨h1, h2, h3⟩ <;> rcases g with ⟨g1, g2⟩ | ⟨g1, g2, g3⟩
  · exact ⟨ld_uniq h1 g1, by rw [h2, g2]⟩
  · exact (ld_not h1 g1).elim
  · exact (ld_not g1 h1).elim
  · refine ⟨by rw [h3, g3], ?_⟩
    rcases h1 with ⟨a, b⟩ | ⟨a, b, c⟩ <;> rcases g1 with ⟨a', b'⟩ | ⟨a', b', c'⟩
    · rw [b, b']
    · omega
    · omega
    · rw [c, c']
theorem lod_one {p : List Itm} {d : Dig} {w w' : World} {e : Ending} (h : LdEE p d w e w') :
    (∃ fs err A c, LodV p d fs err ∧ e = .returned (.tuple #[.slice A fs.length c, .int .i64 err]) ∧ Sl w' w'.heap.size 2 A fs.length (flat flC fs)) ∧ Below w.heap.size w w' := by
  obtain ⟨h, hb⟩ := h
  refine ⟨?_, hb⟩
  rcases h with ⟨fs, A, c, h1, rfl, h3⟩ | ⟨err, h1, h2, rfl⟩
  · exact ⟨fs, 0, A, c, .inl ⟨h1, rfl⟩, rfl, Sl.of_own h3⟩
  · exact ⟨[], err, none, 0, .inr ⟨h1, h2, rfl⟩, rfl, Sl.nil _ _ _ _⟩
theorem rlod_one {p : List Itm} {d : Dig} {w w' : World} {e : Ending} (h : RldE p d w e w') :
    (∃ fs err A c, LodV p d fs err ∧ e = .returned (.tuple #[.slice A fs.length c, .int .i64 err]) ∧ Sl w' w'.heap.size 2 A fs.length (flat flC fs)) ∧ Below w.heap.size w w' := by
  obtain ⟨h, hb⟩ := h
  refine ⟨?_, hb⟩
  rcases h with ⟨fs, A, c, h1, rfl, h3⟩ | ⟨err, h1, h2, rfl⟩
  · exact ⟨fs, 0, A, c, .inl ⟨h1, rfl⟩, rfl, h3⟩
  · exact ⟨[], err, none, 0, .inr ⟨h1, h2, rfl⟩, rfl, Sl.nil _ _ _ _⟩
theorem LodV.len {p : List Itm} {d : Dig} {fs : List Fl} {err : Int} (h : LodV p d fs err) : fs.length ≤ 200 := by
  rcases h with ⟨h, _⟩ | ⟨_, _, h⟩
  · exact h.len
  · rw [h]; exact Nat.zero_le _
def DifV (p : List Itm) (d1 d2 : Dig) (ch : List FCh) (err : Int) : Prop :=
  (LodE p d1 err ∧ ch = []) ∨ (∃ a, LdSeq p d1 a ∧ ((LodE p d2 err ∧ ch = []) ∨ (∃ b, LdSeq p d2 b ∧ DifR a b ch ∧ err = 0)))
theorem LodE.uniq {p : List Itm} {d : Dig} {x y : Int} (h : LodE p d x) (g : LodE p d y) : x = y := by
  rcases h with ⟨a, b⟩ | ⟨a, b, c⟩ <;> rcases g with ⟨a', b'⟩ | ⟨a', b', c'⟩
  · rw [b, b']
  · omega
  · omega
  · rw [c, c']
theorem DifV.uniq {p : List Itm} {d1 d2 : Dig} {c k : List FCh} {x y : Int} (h : DifV p d1 d2 c x) (g : DifV p d1 d2 k y) : c = k ∧ x = y := by
  rcases h with ⟨h1, h2⟩ | ⟨a, h1, h2⟩ <;> rcases g with ⟨g1, g2⟩ | ⟨a', g1, g2⟩
  · exact ⟨by rw [h2, g2], h1.uniq g1⟩
  · exact (ld_not g1 h1).elim
  · exact (ld_not h1 g1).elim
  · have := ld_uniq g1 h1
    subst this
    rcases h2 with ⟨h2, h3⟩ | ⟨b, h2, h3, h4⟩ <;> rcases g2 with ⟨g2, g3⟩ | ⟨b', g2, g3, g4⟩
    · exact ⟨by rw [h3, g3], h2.uniq g2⟩
    · exact (ld_not g2 h2).elim
    · exact (ld_not h2 g2).elim
    · have := ld_uniq g2 h2
      subst this
      exact ⟨h3.uniq g3, by rw [h4, g4]⟩
theorem dif_one {p : List Itm} {d1 d2 : Dig} {w w' : World} {e : Ending} (h : DfE p d1 d2 w e w') :
    (∃ ch err A c, DifV p d1 d2 ch err ∧ e = .returned (.tuple #[.slice A ch.length c, .int .i64 err]) ∧ Sl w' w'.heap.size 5 A ch.length (flat fcC ch) ∧ ch.length ≤ 400) ∧ Below w.heap.size w w' := by
  obtain ⟨h, hb⟩ := h
  refine ⟨?_, hb⟩
  rcases h with ⟨err, h1, _, rfl⟩ | ⟨a, h1, ⟨err, h2, _, rfl⟩ | ⟨b, ch, A, c, h2, h3, rfl, h4, _, _, h7⟩⟩
  · exact ⟨[], err, none, 0, .inl ⟨h1, rfl⟩, rfl, Sl.nil _ _ _ _, Nat.zero_le _⟩
  · exact ⟨[], err, none, 0, .inr ⟨a, h1, .inl ⟨h2, rfl⟩⟩, rfl, Sl.nil _ _ _ _, Nat.zero_le _⟩
  · exact ⟨ch, 0, A, c, .inr ⟨a, h1, .inr ⟨b, h2, h3, rfl⟩⟩, rfl, h4, h7⟩
theorem sameCB_any (A0 A1 : Option Addr) (n0 c0 n1 c1 B : Nat) (rs qs : List FCh) (w : World) (h0 : Sl w B 5 A0 n0 (flat fcC rs)) (h1 : Sl w B 5 A1 n1 (flat fcC qs)) (m0 : n0 ≤ maxLen) :
    Calls Tryz.prog 36 #[.slice A0 n0 c0, .slice A1 n1 c1] w fun e w' => e = .returned (.bool (decide (rs = qs))) ∧ Below w.heap.size w w' :=
  (sameC_any A0 A1 n0 c0 n1 c1 B rs qs w h0 h1 m0).mono fun _ _ ⟨h, k, hk⟩ => ⟨h, by rw [hk]; exact below_drewN (Below.refl _ _) k⟩
set_option maxRecDepth 100000 in
set_option maxHeartbeats 32000000 in
theorem lawRea9_any (A1 : Option Addr) (n1 c1 : Nat) (ps : List Itm) (d x : Dig) (path : ByteArray) (w : World) (h1 : Sl w w.heap.size 3 A1 n1 (flat itC ps)) (k1 : n1 ≤ c1) (k2 : c1 ≤ maxLen) (s1 : ∀ i ∈ ps, i.2.size ≤ maxLen) (hp : path.size ≤ maxLen) :
    Calls Tryz.prog 9 #[.slice A1 n1 c1, digV d, digV x, .string path] w (LawE w) := by
  have H1 := Lib.hid h1
  have HAW := Lib.hid awake_any
  unfold LawE at HAW ⊢
  have awk : Hid (∀ W, Below w.heap.size w W → Calls Tryz.prog 14 #[] W fun e w' => e = .returned (.bool true) ∧ Below w.heap.size w w') := fun W hW => (HAW.out W).mono fun e w' ⟨h1, h2⟩ => ⟨h1, hW.trans (h2.mono hW.size)⟩
  have HB : Hid (Below w.heap.size w w) := Below.refl _ _
  have HK1 := Lib.hid k1; have HK2 := Lib.hid k2; have HS1 := Lib.hid s1
  have hp' : path.size ≤ 9223372036854775807 := by unfold maxLen at hp; exact hp
  clear h1 s1 k1 k2 hp
  obtain ⟨d1, d2⟩ := d
  obtain ⟨x1, x2⟩ := x
  simp only [digV]
  obtain ⟨W0, hW0⟩ : ∃ W, (w.alloc (.cells #[.int .u64 d1, .int .u64 d2] 30)).alloc (.cells #[.int .u64 x1, .int .u64 x2] 30) = W := ⟨_, rfl⟩
  have hb : Below w.heap.size w W0 := by rw [← hW0]; exact ((Below.refl _ w).alloc (Nat.le_refl _) _).alloc (by simp) _
  have HD : Hid (Bk W0 w.heap.size 30 #[.int .u64 d1, .int .u64 d2]) := by rw [← hW0]; exact (Bk.new w _ _).alloc _
  have HX : Hid (Bk W0 (w.heap.size + 1) 30 #[.int .u64 x1, .int .u64 x2]) := by
    rw [← hW0]
    have := Bk.new (w.alloc (.cells #[.int .u64 d1, .int .u64 d2] 30)) 30 #[.int .u64 x1, .int .u64 x2]
    rw [World.size_alloc] at this; exact this
  have HW0 := Lib.hid hW0
  clear hW0
  replace HB : Hid (Below w.heap.size w W0) := HB.out.trans (hb.mono HB.out.size)
  replace H1 := Lib.hid (sl_on H1.out hb)
  clear hb
  have HV := Lib.hid (valid9_any A1 n1 c1 ps W0 H1.out (Nat.le_trans HK1.out HK2.out) HS1.out)
  unfold Vl9End at HV
  go_enter Tryz.func9, Tryz.ntmps9
  go_wp2_with fail
  rw [HW0.out]
  refine HV.out.mono ?_
  rintro e w1 ⟨r, rfl, hr, hb⟩
  have HVV := Lib.hid hr
  replace HB : Hid (Below w.heap.size w w1) := HB.out.trans (hb.mono HB.out.size)
  replace H1 := Lib.hid (sl_on H1.out hb)
  replace HD := Lib.hid (HD.out.below hb HD.out.lt)
  replace HX := Lib.hid (HX.out.below hb HX.out.lt)
  clear hb
  clear hr HV HW0
  cases r with
  | false =>
    clear HVV
    go_wp2_with fail
    refine (awk.out _ (HB.out)).mono ?_
    rintro e wz ⟨rfl, hb⟩
    have HBZ := Lib.hid hb; clear hb
    go_wp2_with fail
    go_ret
    exact ⟨rfl, HBZ.out⟩
  | true =>
    by_cases hp2 : (200 : Int) < (path.size : Int)
    · clear HVV
      go_wp2_with fail
      refine (awk.out _ (HB.out)).mono ?_
      rintro e wz ⟨rfl, hb⟩
      have HBZ := Lib.hid hb; clear hb
      go_wp2_with fail
      go_ret
      exact ⟨rfl, HBZ.out⟩
    obtain ⟨hn1, hsz, hpl⟩ := HVV.out rfl
    have HPL := Lib.hid hpl
    have HSZ : Hid (∀ i ∈ ps, i.2.size ≤ 60000) := fun i hi => Nat.le_trans (hsz i hi) (by omega)
    clear hsz hpl HVV
    have HC := Lib.hid (tload_any A1 n1 c1 w1.heap.size ps (d1, d2) w1 H1.out (Nat.le_refl _) (by omega) HPL.out)
    simp only [digV] at HC
    obtain ⟨c00, c01, _, _⟩ := HD.out.two
    go_wp2_with fail
    refine HC.out.mono ?_
    rintro e w2 hst
    obtain ⟨⟨fs, err, A2, c2, hl, rfl, hsl⟩, hb⟩ := lod_one hst
    have HLV := Lib.hid hl; have HL := Lib.hid hsl
    clear hl hsl
    replace HB : Hid (Below w.heap.size w w2) := HB.out.trans (hb.mono HB.out.size)
    replace H1 := Lib.hid (sl_on H1.out hb)
    replace HD := Lib.hid (HD.out.below hb HD.out.lt)
    replace HX := Lib.hid (HX.out.below hb HX.out.lt)
    clear hb
    clear HC c00 c01
    have HC := Lib.hid (rload9_any A1 n1 c1 w2.heap.size ps (d1, d2) w2 H1.out (Nat.le_refl _) (by omega) HPL.out)
    simp only [digV] at HC
    obtain ⟨c00, c01, _, _⟩ := HD.out.two
    go_wp2_with fail
    refine HC.out.mono ?_
    rintro e w3 hst
    obtain ⟨⟨gs, err', A3, c3, hl, rfl, hsl⟩, hb⟩ := rlod_one hst
    obtain ⟨rfl, rfl⟩ := HLV.out.uniq hl
    have HM := Lib.hid hsl
    clear hl hsl
    replace HB : Hid (Below w.heap.size w w3) := HB.out.trans (hb.mono HB.out.size)
    replace H1 := Lib.hid (sl_on H1.out hb)
    replace HD := Lib.hid (HD.out.below hb HD.out.lt)
    replace HX := Lib.hid (HX.out.below hb HX.out.lt)
    replace HL := Lib.hid (sl_on HL.out hb)
    clear hb
    clear HC c00 c01
    have HC := Lib.hid (tget_any A1 n1 c1 w3.heap.size ps (d1, d2) path w3 H1.out (Nat.le_refl _) (by omega) HPL.out (by omega))
    simp only [digV] at HC
    obtain ⟨c00, c01, _, _⟩ := HD.out.two
    unfold TgE at HC
    obtain ⟨⟨r, z⟩, hr⟩ : ∃ r, gtR ps (d1, d2) path = r := ⟨_, rfl⟩
    rw [hr] at HC
    have HRZ := Lib.hid hr
    clear hr
    simp only at HC
    go_wp2_with fail
    refine HC.out.mono ?_
    rintro e w4 ⟨rfl, hb⟩
    replace HB : Hid (Below w.heap.size w w4) := HB.out.trans (hb.mono HB.out.size)
    replace H1 := Lib.hid (sl_on H1.out hb)
    replace HD := Lib.hid (HD.out.below hb HD.out.lt)
    replace HX := Lib.hid (HX.out.below hb HX.out.lt)
    replace HL := Lib.hid (sl_on HL.out hb)
    replace HM := Lib.hid (sl_on HM.out hb)
    clear hb
    clear HC c00 c01
    have HC := Lib.hid (rget9_any A1 n1 c1 w4.heap.size ps (d1, d2) path w4 H1.out (Nat.le_refl _) (by omega) HPL.out (by omega))
    simp only [digV] at HC
    obtain ⟨c00, c01, _, _⟩ := HD.out.two
    unfold TgE at HC
    rw [HRZ.out] at HC
    simp only at HC
    go_wp2_with fail
    refine HC.out.mono ?_
    rintro e w5 ⟨rfl, hb⟩
    replace HB : Hid (Below w.heap.size w w5) := HB.out.trans (hb.mono HB.out.size)
    replace H1 := Lib.hid (sl_on H1.out hb)
    replace HD := Lib.hid (HD.out.below hb HD.out.lt)
    replace HX := Lib.hid (HX.out.below hb HX.out.lt)
    replace HL := Lib.hid (sl_on HL.out hb)
    replace HM := Lib.hid (sl_on HM.out hb)
    clear hb
    clear HC c00 c01
    have HC := Lib.hid (tdiff_any A1 n1 c1 w5.heap.size ps (d1, d2) (x1, x2) w5 H1.out (Nat.le_refl _) (by omega) HPL.out HSZ.out)
    simp only [digV] at HC
    obtain ⟨c00, c01, _, _⟩ := HD.out.two
    obtain ⟨c10, c11, _, _⟩ := HX.out.two
    go_wp2_with fail
    refine HC.out.mono ?_
    rintro e w6 hst
    obtain ⟨⟨ch, er2, A6, c6, hd, rfl, hsl, hcl⟩, hb⟩ := dif_one hst
    have HDV := Lib.hid hd; have HCH := Lib.hid hsl
    clear hd hsl
    replace HB : Hid (Below w.heap.size w w6) := HB.out.trans (hb.mono HB.out.size)
    replace H1 := Lib.hid (sl_on H1.out hb)
    replace HD := Lib.hid (HD.out.below hb HD.out.lt)
    replace HX := Lib.hid (HX.out.below hb HX.out.lt)
    replace HL := Lib.hid (sl_on HL.out hb)
    replace HM := Lib.hid (sl_on HM.out hb)
    clear hb
    clear HC c00 c01 c10 c11
    have HC := Lib.hid (rdiff9_any A1 n1 c1 w6.heap.size ps (d1, d2) (x1, x2) w6 H1.out (Nat.le_refl _) (by omega) HPL.out)
    simp only [digV] at HC
    obtain ⟨c00, c01, _, _⟩ := HD.out.two
    obtain ⟨c10, c11, _, _⟩ := HX.out.two
    go_wp2_with fail
    refine HC.out.mono ?_
    rintro e w7 hst
    obtain ⟨⟨ck, er3, A7, c7, hd, rfl, hsl, _⟩, hb⟩ := dif_one hst
    obtain ⟨rfl, rfl⟩ := HDV.out.uniq hd
    have HCE := Lib.hid hsl
    clear hd hsl
    replace HB : Hid (Below w.heap.size w w7) := HB.out.trans (hb.mono HB.out.size)
    replace HL := Lib.hid (sl_on HL.out hb)
    replace HM := Lib.hid (sl_on HM.out hb)
    replace HCH := Lib.hid (sl_on HCH.out hb)
    clear hb
    clear HC c00 c01 c10 c11
    have hll : fs.length ≤ 200 := HLV.out.len
    have HC := Lib.hid (same9B_any A2 A3 fs.length c2 fs.length c3 w7.heap.size fs fs w7 HL.out HM.out (by unfold maxLen; omega))
    rw [decide_eq_true rfl] at HC
    have t1 : (err == err) = true := by simp
    have t2 : (r.toList == r.toList) = true := by simp
    have t3 : (z == z) = true := by simp
    have t4 : (er2 == er2) = true := by simp
    go_wp2_with fail
    refine HC.out.mono ?_
    rintro e w8 ⟨rfl, hb⟩
    replace HB : Hid (Below w.heap.size w w8) := HB.out.trans (hb.mono HB.out.size)
    replace HCH := Lib.hid (sl_on HCH.out hb)
    replace HCE := Lib.hid (sl_on HCE.out hb)
    clear hb
    clear HC HL HM
    have HC := Lib.hid (sameCB_any A6 A7 ch.length c6 ch.length c7 w8.heap.size ch ch w8 HCH.out HCE.out (by unfold maxLen; omega))
    rw [decide_eq_true rfl] at HC
    go_wp2_with fail
    refine HC.out.mono ?_
    rintro e w9 ⟨rfl, hb⟩
    replace HB : Hid (Below w.heap.size w w9) := HB.out.trans (hb.mono HB.out.size)
    clear hb
    clear HC HCH HCE
    go_wp2_with fail
    refine (awk.out _ (HB.out)).mono ?_
    rintro e wz ⟨rfl, hb⟩
    have HBZ := Lib.hid hb; clear hb
    go_wp2_with fail
    go_ret
    exact ⟨rfl, HBZ.out⟩
end Go.Proofs.YtmdhlkkekidknaaGreatDoor
