/-
  Lemmas: The reference's Deps and Inputs. The reference's bounds on targets: it answers. The chapter's example, in plain Lean: the graph a <- b <- t is valid, and what its actions read. awake: the chapter's example. ActionInputs.
-/
import Derived.Test.YtiphbincnnppdaaDoorU9

namespace Go.Proofs.YtiphbincnnppdaaDoor
open Go.RowKit Go.Maps

set_option maxRecDepth 100000 in
set_option maxHeartbeats 4000000 in
theorem rdeps_any (A : Option Addr) (n c B : Nat) (ts : List Tg) (lab : ByteArray) (w : World) (h0 : Sl w B 4 A n (flat tgC ts)) (hok : ∀ t ∈ ts, TgOk w B t) (hB : B ≤ w.heap.size) (hnc : n ≤ c) (hcm : c ≤ maxLen) :
    Calls Tryd.prog 30 #[.agg #[.slice A n c], .string lab] w (FndEnd ts lab w) := by
  have HTL := Lib.hid (h0.len tgC_len (by omega))
  have H0 := Lib.hid h0; have HOK := Lib.hid hok
  clear h0 hok
  have hnm : n ≤ 9223372036854775807 := by unfold maxLen at hcm; omega
  obtain ⟨W0, hW0⟩ : ∃ W0, w.alloc (.cells #[.slice A n c] 24) = W0 := ⟨_, rfl⟩
  have HB0 : Hid (Below w.heap.size w W0) := by rw [← hW0]; exact (Below.refl _ w).alloc (Nat.le_refl _) _
  have zW0 : W0.heap.size = w.heap.size + 1 := by rw [← hW0]; simp
  have HG : Hid (Bk W0 w.heap.size 24 #[.slice A n c]) := by rw [← hW0]; exact Bk.new w _ _
  have g0 := HG.out.cell 0
  simp at g0
  have HV := Lib.hid (rvalid_any A n c B ts W0 (H0.out.below HB0.out hB) (fun t ht => (HOK.out t ht).below HB0.out hB) (by omega) hnc hcm)
  go_enter Tryd.func30, Tryd.ntmps30
  go_wp2_with (go_at_call 12; refine HV.out.mono ?_; rintro e w1 ⟨r, rfl, hr, hb1⟩; refine halt_ ?_)
  refine unhalt ?_
  have HR := Lib.hid hr
  have HB1 : Hid (Below w.heap.size w w1) := HB0.out.trans (hb1.mono (by omega))
  have HG1 := Lib.hid (HG.out.below hb1 (by omega))
  clear hr hb1 g0 HV hW0
  have g0 := HG1.out.cell 0
  simp at g0
  cases r with
  | false =>
    have HN : Hid (¬ Vld ts) := fun h => by have := HR.out.2 h; cases this
    go_wp2
    go_ret2
    exact ⟨_, 0, 0, [], 1, rfl, Sl.nil _ _ _ _, Nat.le_refl _, Nat.zero_le _, HB1.out.alloc HB1.out.size _, .inl ⟨HN.out, rfl, rfl⟩⟩
  | true =>
    have HVL := Lib.hid (HR.out.1 rfl)
    have HFD := Lib.hid (rfind_any A n c B ts lab w1 (H0.out.below HB1.out hB) hnm)
    have hn100 : n ≤ 100 := by have := HVL.out.few; rw [HTL.out] at this; exact this
    have HRE := Lib.hid (rreach_any A n c B ts lab w1 (H0.out.below HB1.out hB) (fun t ht => (HOK.out t ht).below HB1.out hB) (Nat.le_trans hB HB1.out.size) (by omega))
    cases hit : isT ts lab with
    | false =>
      have hp : posI ts lab = -1 := by
        have := posI_isT ts lab; rw [hit] at this
        have h2 : ¬ (0 ≤ posI ts lab) := of_decide_eq_false this.symm
        exact posI_neg ts lab (by omega)
      rw [hp] at HFD
      have HF : Hid (FndR ts lab [] 8) := .inr (.inl ⟨HVL.out, hit, rfl, rfl⟩)
      clear hit hp
      go_wp2_with (go_at_call 29; refine HFD.out.mono ?_; rintro e wf ⟨rfl, rfl⟩)
      go_ret2
      exact ⟨_, 0, 0, [], 8, rfl, Sl.nil _ _ _ _, Nat.le_refl _, Nat.zero_le _, HB1.out.alloc HB1.out.size _, HF.out⟩
    | true =>
      obtain ⟨pk, hpk⟩ : ∃ pk : Nat, posI ts lab = pk := by
        have := posI_isT ts lab; rw [hit] at this
        have h2 : 0 ≤ posI ts lab := of_decide_eq_true this.symm
        exact ⟨(posI ts lab).toNat, by omega⟩
      rw [hpk] at HFD
      have HIT := Lib.hid hit
      have hpz : ¬ ((pk : Int) < 0) := by omega
      clear hit hpk
      go_wp2_with (first
        | (go_at_call 29; refine HFD.out.mono ?_; rintro e wf ⟨rfl, rfl⟩)
        | (go_at_call 49; refine HRE.out.mono ?_; rintro e w2 ⟨A', c', l, rfl, hs1, hs2, hs3, hs4, hs5, hs6, hs7⟩))
      go_ret2
      exact ⟨A', l.length, c', l, 0, rfl, hs1, hs2, hs3, HB1.out.trans (hs4.mono HB1.out.size), .inr (.inr ⟨HVL.out, HIT.out, rfl, hs5, hs7⟩)⟩
theorem insS_le (l : List ByteArray) (s : ByteArray) : (insS l s).length ≤ l.length + 1 := by
  induction l with
  | nil => simp [insS]
  | cons a l ih =>
    simp only [insS]
    split
    · simp; exact ih
    · split <;> simp
theorem nb1 {t : Tg} : ¬ BadK 1 t := fun h => h.1 rfl
theorem nb2 {t : Tg} (h : t.kind ≠ 1) : ¬ BadK 2 t := fun g => by
  rcases g.2 with g | g
  · exact g.1 rfl
  · exact h g
theorem nb3 {t : Tg} (h : t.kind ≠ 1) : ¬ BadK 3 t := fun g => by
  rcases g.2 with g | g
  · exact g.2 rfl
  · exact h g

set_option maxRecDepth 100000 in
set_option maxHeartbeats 8000000 in
theorem rinputs_any (A : Option Addr) (n c B : Nat) (ts : List Tg) (lab : ByteArray) (kd : Int) (w : World) (h0 : Sl w B 4 A n (flat tgC ts)) (hok : ∀ t ∈ ts, TgOk w B t) (hB : B ≤ w.heap.size) (hnc : n ≤ c) (hcm : c ≤ maxLen) :
    Calls Tryd.prog 10 #[.agg #[.slice A n c], .string lab, .int .i64 kd] w (InpEnd ts lab kd w) := by
  have HTL := Lib.hid (h0.len tgC_len (by omega))
  have H0 := Lib.hid h0; have HOK := Lib.hid hok
  clear h0 hok
  have hnm : n ≤ 9223372036854775807 := by unfold maxLen at hcm; omega
  obtain ⟨W0, hW0⟩ : ∃ W0, w.alloc (.cells #[.slice A n c] 24) = W0 := ⟨_, rfl⟩
  have HB0 : Hid (Below w.heap.size w W0) := by rw [← hW0]; exact (Below.refl _ w).alloc (Nat.le_refl _) _
  have zW0 : W0.heap.size = w.heap.size + 1 := by rw [← hW0]; simp
  have HG : Hid (Bk W0 w.heap.size 24 #[.slice A n c]) := by rw [← hW0]; exact Bk.new w _ _
  have g0 := HG.out.cell 0
  simp at g0
  have HV := Lib.hid (rvalid_any A n c B ts W0 (H0.out.below HB0.out hB) (fun t ht => (HOK.out t ht).below HB0.out hB) (by omega) hnc hcm)
  go_enter Tryd.func10, Tryd.ntmps10
  go_wp2_with (go_at_call 12; refine HV.out.mono ?_; rintro e w1 ⟨r, rfl, hr, hb1⟩; refine halt_ ?_)
  refine unhalt ?_
  have HR := Lib.hid hr
  have HB1 : Hid (Below w.heap.size w w1) := HB0.out.trans (hb1.mono (by omega))
  have HG1 := Lib.hid (HG.out.below hb1 (by omega))
  clear hr hb1 g0 HV hW0
  have g0 := HG1.out.cell 0
  simp at g0
  cases r with
  | false =>
    have HN : Hid (InpR ts lab kd [] 1) := .inl ⟨fun h => (by have := HR.out.2 h; cases this), rfl, rfl⟩
    go_wp2
    go_ret2
    exact InpEnd.none_ HN.out HB1.out
  | true =>
    have HVL := Lib.hid (HR.out.1 rfl)
    have HFD := Lib.hid (rfind_any A n c B ts lab w1 (H0.out.below HB1.out hB) hnm)
    have hn100 : n ≤ 100 := by have := HVL.out.few; rw [HTL.out] at this; exact this
    cases hft : findT ts lab with
    | none =>
      rw [posI_none hft] at HFD
      have HF : Hid (InpR ts lab kd [] 8) := .inr (.inl ⟨HVL.out, by unfold isT; rw [hft]; rfl, rfl, rfl⟩)
      clear hft
      go_wp2_with (go_at_call 29; refine HFD.out.mono ?_; rintro e wf ⟨rfl, rfl⟩)
      go_ret2
      exact InpEnd.none_ HF.out HB1.out
    | some t =>
      obtain ⟨ki, hki, hti⟩ := posI_some hft
      have hkn : ki < n := by have := (List.getElem?_eq_some_iff.1 hti).1; rw [HTL.out] at this; exact this
      have HTO := Lib.hid (HOK.out t (List.mem_of_getElem? hti))
      have HTD := Lib.hid (HVL.out.at_ hti)
      have HFT := Lib.hid hft
      have HIT : Hid (isT ts lab = true) := by show _ = _; unfold isT; rw [hft]; rfl
      have hl90 : lab.size ≤ 90 := vld_size HVL.out HIT.out
      obtain ⟨b, off, t', rfl, hbB, ht', y0, y1, y2, y3⟩ := (H0.out.below HB1.out hB).tg hkn
      rw [hti] at ht'
      cases ht'
      have hkz : (ki : Int) < (n : Int) := by omega
      have hkz2 : ¬ ((ki : Int) < 0) := by omega
      rw [hki] at HFD
      have hkk : t.kind = 1 ∨ t.kind = 2 := HTD.out.kind
      have hdl : t.deps.length = t.dn := HTO.out.dlen
      have hdf : t.deps.length ≤ 20 := HTD.out.few
      clear hft hki hti
      obtain ⟨tl, kind, dA, dn, dc, deps, vA, vn, vc, vis⟩ := t
      simp only at y0 y1 y2 y3 hkk hdl hdf
      obtain ⟨W2, hW2⟩ : ∃ W2, w1.alloc (.cells #[.string tl, .int .i64 kind, .slice dA dn dc, .slice vA vn vc] 35) = W2 := ⟨_, rfl⟩
      have hkt : Bk W2 w1.heap.size 35 #[.string tl, .int .i64 kind, .slice dA dn dc, .slice vA vn vc] := by rw [← hW2]; exact Bk.new w1 _ _
      have HB2 : Hid (Below w.heap.size w W2) := by rw [← hW2]; exact HB1.out.alloc HB1.out.size _
      have x1 := hkt.cell 1; have x2 := hkt.cell 2
      simp at x1 x2
      have HDL := Lib.hid hdl
      have hdn20 : dn ≤ 20 := by omega
      clear hkt hdl hdf
      by_cases k1 : kd = 1
      · subst k1
        have H90 : Hid (∀ d ∈ deps, d.size ≤ 90) := fun d hd => vld_size HVL.out (kindOf_isT (HTD.out.dep d hd))
        go_wp2_with (go_at_call 29; refine HFD.out.mono ?_; rintro e wf ⟨rfl, rfl⟩)
        all_goals
          go_quiet (fail)
          obtain ⟨W4, hW4⟩ : ∃ W4, W2.drewN nq = W4 := ⟨_, rfl⟩
          have HB4 : Hid (Below w.heap.size w W4) := by rw [← hW4]; exact below_drewN HB2.out nq
          have HDS : Hid (Sl W4 W4.heap.size 1 dA dn (strs deps)) := (HTO.out.d.below HB4.out hB).more (Nat.le_trans hB HB4.out.size)
          rw [hW4]
          clear hW2 hW4 y0 y1 y2 y3 g0 x1 x2
          have hcat : ¬ (9223372036854775807 < (⟨#[115, 111, 117, 114, 99, 101, 32]⟩ : ByteArray).size + lab.size) := by show ¬ (_ < 7 + lab.size); omega
          obtain ⟨W5, hW5⟩ : ∃ W5, W4.alloc (.cells #[.string (⟨#[115, 111, 117, 114, 99, 101, 32]⟩ ++ lab)] 9) = W5 := ⟨_, rfl⟩
          have hbs : Bk W5 W4.heap.size 9 #[.string (sourceW ++ lab)] := by rw [← hW5]; exact Bk.new W4 _ _
          have zW5 : W5.heap.size = W4.heap.size + 1 := by rw [← hW5]; simp
          have HB5 : Hid (Below w.heap.size w W5) := by rw [← hW5]; exact HB4.out.alloc HB4.out.size _
          have HD5 : Hid (Sl W5 W5.heap.size 1 dA dn (strs deps)) := by rw [← hW5]; exact (HDS.out.alloc (Nat.le_refl _) _).more (by simp)
          have HS5 : Hid (Sl W5 W5.heap.size 1 (some ⟨W4.heap.size, 0, none⟩) 1 (strs [sourceW ++ lab])) := Sl.of_bk hbs rfl
          clear hbs
          go_wp2_with fail
          go_loopw [13, 14] (fun q13 q14 wr => ∃ (k : Nat) (Aq : Option Addr) (cq m : Nat) (l : List ByteArray), k ≤ dn ∧ q14 = .int .i64 k ∧ q13 = .slice Aq m cq ∧ m ≤ cq ∧ cq ≤ maxLen ∧ m ≤ k + 1 ∧ Hid (m = l.length) ∧ Hid (Sl wr wr.heap.size 1 Aq m (strs l)) ∧ Hid (Asc l) ∧ Hid (∀ x, x ∈ l ↔ x = sourceW ++ lab ∨ ∃ d ∈ deps.take k, x = ifaceW ++ d) ∧ Hid (Below W5.heap.size W5 wr)) (fun _ q14 _ => dn - (intOf q14).toNat)
          case atStart => exact ⟨0, _, 1, 1, [sourceW ++ lab], Nat.zero_le _, rfl, rfl, Nat.le_refl _, by unfold maxLen; omega, by omega, rfl, HS5.out, List.pairwise_singleton _ _, fun x => by simp, Below.refl _ _⟩
          case round =>
            obtain ⟨k, Aq, cq, m, l, hk, rfl, rfl, hmc, hcm5, hmk, hml, hS, hAs, hMe, hBel⟩ := hrel
            have hwr := hBel.out.size
            by_cases hlt : k < dn
            · obtain ⟨db, doff, d, rfl, hdb, hd, y0⟩ := (HD5.out.below hBel.out (Nat.le_refl _)).str_at hlt
              have hlz : (k : Int) < (dn : Int) := by omega
              have HTK := Lib.hid (take_snoc hd)
              have hd90 : d.size ≤ 90 := H90.out d (List.mem_of_getElem? hd)
              have hcat2 : ¬ (9223372036854775807 < (⟨#[105, 102, 97, 99, 101, 32]⟩ : ByteArray).size + d.size) := by show ¬ (_ < 6 + d.size); omega
              have HWI : Hid (Calls Tryd.prog 31 #[.slice Aq m cq, .string (⟨#[105, 102, 97, 99, 101, 32]⟩ ++ d)] wr (InsEnd l (ifaceW ++ d) wr)) := rwith_any Aq m cq wr.heap.size l (ifaceW ++ d) wr hS.out (Nat.le_refl _) hmc hcm5 (by omega)
              clear hd
              go_wp2_with (go_at_call 31; refine HWI.out.mono ?_; rintro e w6 ⟨A6, c6, rfl, hs6, h61, h62, hb6, _⟩; refine halt_ ?_)
              refine unhalt ?_
              have HS6 := Lib.hid hs6
              have HA6 : Hid (Asc (insS l (ifaceW ++ d))) := asc_insS _ hAs.out
              have HM6 : Hid (∀ x, x ∈ insS l (ifaceW ++ d) ↔ x = sourceW ++ lab ∨ ∃ e ∈ deps.take (k + 1), x = ifaceW ++ e) := fun x => by
                rw [mem_insS, hMe.out x, HTK.out]
                constructor
                · rintro ((h | ⟨e, he, h⟩) | h)
                  · exact .inl h
                  · exact .inr ⟨e, List.mem_append_left _ he, h⟩
                  · exact .inr ⟨d, by simp, h⟩
                · rintro (h | ⟨e, he, h⟩)
                  · exact .inl (.inl h)
                  · rcases List.mem_append.1 he with he | he
                    · exact .inl (.inr ⟨e, he, h⟩)
                    · rw [List.mem_singleton.1 he] at h; exact .inr h
              have HB6 : Hid (Below W5.heap.size W5 w6) := hBel.out.trans (hb6.mono hwr)
              have hl6 : (insS l (ifaceW ++ d)).length ≤ k + 1 + 1 := by have := insS_le l (ifaceW ++ d); have := hml.out; omega
              obtain ⟨m6, hm6⟩ : ∃ m6, (insS l (ifaceW ++ d)).length = m6 := ⟨_, rfl⟩
              rw [hm6] at HS6 h61 hl6
              have HL6 := Lib.hid hm6.symm
              rw [hm6]
              clear hs6 hb6 HWI y0 hm6
              go_wp2_with fail
              go_roundw
              case rel => exact ⟨k + 1, A6, c6, m6, _, hlt, by go_num, rfl, h61, h62, by omega, HL6.out, HS6.out, HA6.out, HM6.out, HB6.out⟩
              case measure => simp [intOf]; omega
            · have hlz : ¬ (k : Int) < (dn : Int) := by omega
              have HM6 : Hid (∀ x, x ∈ l ↔ x = sourceW ++ lab ∨ ∃ e ∈ deps, x = ifaceW ++ e) := fun x => by
                have h1 := hMe.out x; rwa [List.take_of_length_le (by rw [HDL.out]; omega)] at h1
              have HF : Hid (InpR ts lab 1 l 0) := .inr (.inr ⟨HVL.out, _, HFT.out, .inr ⟨nb1, rfl, hAs.out, fun x => (HM6.out x).trans ⟨fun h => .inl ⟨rfl, h⟩, fun h => by
                rcases h with ⟨_, h⟩ | ⟨h, _⟩ | ⟨h, _⟩
                · exact h
                · cases h
                · cases h⟩⟩⟩)
              go_wp2_with fail
              go_ret2
              exact ⟨Aq, m, cq, l, 0, rfl, hS.out, hmc, hcm5, HB5.out.trans (hBel.out.mono HB5.out.size), HF.out⟩
      · by_cases k3 : kd = 2 ∨ kd = 3
        case neg =>
          have HF : Hid (InpR ts lab kd [] 9) := .inr (.inr ⟨HVL.out, _, HFT.out, .inl ⟨⟨k1, .inl ⟨fun e => k3 (.inl e), fun e => k3 (.inr e)⟩⟩, rfl, rfl⟩⟩)
          by_cases k4 : kd < 1
          · clear k1 k3
            go_wp2_with (go_at_call 29; refine HFD.out.mono ?_; rintro e wf ⟨rfl, rfl⟩)
            go_ret2
            exact InpEnd.none_ HF.out HB2.out
          · have k5 : 3 < kd := by omega
            clear k1 k3
            go_wp2_with (go_at_call 29; refine HFD.out.mono ?_; rintro e wf ⟨rfl, rfl⟩)
            go_ret2
            exact InpEnd.none_ HF.out HB2.out
        by_cases kk : kind = 1
        · subst kk
          have HF : Hid (InpR ts lab kd [] 9) := .inr (.inr ⟨HVL.out, _, HFT.out, .inl ⟨⟨k1, .inr rfl⟩, rfl, rfl⟩⟩)
          clear k1
          rcases k3 with rfl | rfl
          · go_wp2_with (go_at_call 29; refine HFD.out.mono ?_; rintro e wf ⟨rfl, rfl⟩)
            go_ret2
            exact InpEnd.none_ HF.out HB2.out
          · go_wp2_with (go_at_call 29; refine HFD.out.mono ?_; rintro e wf ⟨rfl, rfl⟩)
            go_ret2
            exact InpEnd.none_ HF.out HB2.out
        · obtain rfl : kind = 2 := by omega
          rcases k3 with rfl | rfl
          · have HK2 : Hid (Bk W2 w.heap.size 24 #[.slice (some ⟨b, off, none⟩) n c]) := by rw [← hW2]; exact HG1.out.alloc _
            have g2 := HK2.out.cell 0
            simp at g2
            have HDE := Lib.hid (rdeps_any (some ⟨b, off, none⟩) n c B ts lab (W2) (H0.out.below HB2.out hB) (fun t ht => (HOK.out t ht).below HB2.out hB) (Nat.le_trans hB HB2.out.size) hnc hcm)
            have HDE2 : Hid (∀ q, Calls Tryd.prog 30 #[.agg #[.slice (some ⟨b, off, none⟩) n c], .string lab] (W2.drewN q) (FndEnd ts lab (W2.drewN q))) := fun q =>
              rdeps_any (some ⟨b, off, none⟩) n c B ts lab (W2.drewN q) ((H0.out.below HB2.out hB).drewN q) (fun t ht => (HOK.out t ht).below (below_drewN HB2.out q) hB) (by have := HB2.out.size; simp; omega) hnc hcm
            clear k1 kk HDE HDL hdn20
            go_wp2_with (go_at_call 29; refine HFD.out.mono ?_; rintro e wf ⟨rfl, rfl⟩)
            go_quiet (fail)
            go_wp2_with (go_at_call 30; refine (HDE2.out _).mono ?_; rintro e W4 ⟨aA, an, ac, all, err, rfl, hs4, hn4, hc4, hb4, hf4⟩; refine halt_ ?_)
            refine unhalt ?_
            have HB4 : Hid (Below w.heap.size w W4) := (below_drewN HB2.out _).trans (hb4.mono (below_drewN HB2.out _).size)
            have HDS := Lib.hid hs4
            have HFN : Hid (err = 0 ∧ Asc all ∧ ∀ x, x ∈ all ↔ Rch (nxT ts) lab x) := by
              rcases hf4 with ⟨h, _⟩ | ⟨_, h, _⟩ | ⟨_, _, h1, h2, h3⟩
              · exact absurd HVL.out h
              · rw [HIT.out] at h; cases h
              · exact ⟨h1, h2, h3⟩
            have HDL : Hid (all.length = an) := by have := hs4.1; rw [strs_len] at this; show _ = _; omega
            have H90 : Hid (∀ d ∈ all, d.size ≤ 90) := fun d hd => vld_size HVL.out (rch_isT ((HFN.out.2.2 d).1 hd))
            have hdn20 : an ≤ 100 := by
              have h1 := nodup_len all (ts.map Tg.lab) HFN.out.2.1.nodup (fun x hx => (isT_iff ts x).1 (rch_isT ((HFN.out.2.2 x).1 hx)))
              rw [List.length_map, HTL.out, HDL.out] at h1; omega
            clear hs4 hb4 hf4 HDE2 hW2 y0 y1 y2 y3 g0 g2 x1 x2
            have hcat : ¬ (9223372036854775807 < (⟨#[99, 111, 100, 101, 32]⟩ : ByteArray).size + lab.size) := by show ¬ (_ < 5 + lab.size); omega
            obtain ⟨W5, hW5⟩ : ∃ W5, W4.alloc (.cells #[.string (⟨#[99, 111, 100, 101, 32]⟩ ++ lab)] 9) = W5 := ⟨_, rfl⟩
            have hbs : Bk W5 W4.heap.size 9 #[.string (codeW ++ lab)] := by rw [← hW5]; exact Bk.new W4 _ _
            have zW5 : W5.heap.size = W4.heap.size + 1 := by rw [← hW5]; simp
            have HB5 : Hid (Below w.heap.size w W5) := by rw [← hW5]; exact HB4.out.alloc HB4.out.size _
            have HD5 : Hid (Sl W5 W5.heap.size 1 aA an (strs all)) := by rw [← hW5]; exact (HDS.out.alloc (Nat.le_refl _) _).more (by simp)
            have HS5 : Hid (Sl W5 W5.heap.size 1 (some ⟨W4.heap.size, 0, none⟩) 1 (strs [codeW ++ lab])) := Sl.of_bk hbs rfl
            clear hbs
            go_wp2_with fail
            go_loopw [13, 14] (fun q13 q14 wr => ∃ (k : Nat) (Aq : Option Addr) (cq m : Nat) (l : List ByteArray), k ≤ an ∧ q14 = .int .i64 k ∧ q13 = .slice Aq m cq ∧ m ≤ cq ∧ cq ≤ maxLen ∧ m ≤ k + 1 ∧ Hid (m = l.length) ∧ Hid (Sl wr wr.heap.size 1 Aq m (strs l)) ∧ Hid (Asc l) ∧ Hid (∀ x, x ∈ l ↔ x = codeW ++ lab ∨ ∃ d ∈ all.take k, x = codeW ++ d) ∧ Hid (Below W5.heap.size W5 wr)) (fun _ q14 _ => an - (intOf q14).toNat)
            case atStart => exact ⟨0, _, 1, 1, [codeW ++ lab], Nat.zero_le _, rfl, rfl, Nat.le_refl _, by unfold maxLen; omega, by omega, rfl, HS5.out, List.pairwise_singleton _ _, fun x => by simp, Below.refl _ _⟩
            case round =>
              obtain ⟨k, Aq, cq, m, l, hk, rfl, rfl, hmc, hcm5, hmk, hml, hS, hAs, hMe, hBel⟩ := hrel
              have hwr := hBel.out.size
              by_cases hlt : k < an
              · obtain ⟨db, doff, d, rfl, hdb, hd, y0⟩ := (HD5.out.below hBel.out (Nat.le_refl _)).str_at hlt
                have hlz : (k : Int) < (an : Int) := by omega
                have HTK := Lib.hid (take_snoc hd)
                have hd90 : d.size ≤ 90 := H90.out d (List.mem_of_getElem? hd)
                have hcat2 : ¬ (9223372036854775807 < (⟨#[99, 111, 100, 101, 32]⟩ : ByteArray).size + d.size) := by show ¬ (_ < 5 + d.size); omega
                have HWI : Hid (Calls Tryd.prog 31 #[.slice Aq m cq, .string (⟨#[99, 111, 100, 101, 32]⟩ ++ d)] wr (InsEnd l (codeW ++ d) wr)) := rwith_any Aq m cq wr.heap.size l (codeW ++ d) wr hS.out (Nat.le_refl _) hmc hcm5 (by omega)
                clear hd
                go_wp2_with (go_at_call 31; refine HWI.out.mono ?_; rintro e w6 ⟨A6, c6, rfl, hs6, h61, h62, hb6, _⟩; refine halt_ ?_)
                refine unhalt ?_
                have HS6 := Lib.hid hs6
                have HA6 : Hid (Asc (insS l (codeW ++ d))) := asc_insS _ hAs.out
                have HM6 : Hid (∀ x, x ∈ insS l (codeW ++ d) ↔ x = codeW ++ lab ∨ ∃ e ∈ all.take (k + 1), x = codeW ++ e) := fun x => by
                  rw [mem_insS, hMe.out x, HTK.out]
                  constructor
                  · rintro ((h | ⟨e, he, h⟩) | h)
                    · exact .inl h
                    · exact .inr ⟨e, List.mem_append_left _ he, h⟩
                    · exact .inr ⟨d, by simp, h⟩
                  · rintro (h | ⟨e, he, h⟩)
                    · exact .inl (.inl h)
                    · rcases List.mem_append.1 he with he | he
                      · exact .inl (.inr ⟨e, he, h⟩)
                      · rw [List.mem_singleton.1 he] at h; exact .inr h
                have HB6 : Hid (Below W5.heap.size W5 w6) := hBel.out.trans (hb6.mono hwr)
                have hl6 : (insS l (codeW ++ d)).length ≤ k + 1 + 1 := by have := insS_le l (codeW ++ d); have := hml.out; omega
                obtain ⟨m6, hm6⟩ : ∃ m6, (insS l (codeW ++ d)).length = m6 := ⟨_, rfl⟩
                rw [hm6] at HS6 h61 hl6
                have HL6 := Lib.hid hm6.symm
                rw [hm6]
                clear hs6 hb6 HWI y0 hm6
                go_wp2_with fail
                go_roundw
                case rel => exact ⟨k + 1, A6, c6, m6, _, hlt, by go_num, rfl, h61, h62, by omega, HL6.out, HS6.out, HA6.out, HM6.out, HB6.out⟩
                case measure => simp [intOf]; omega
              · have hlz : ¬ (k : Int) < (an : Int) := by omega
                have HM6 : Hid (∀ x, x ∈ l ↔ x = codeW ++ lab ∨ ∃ e ∈ all, x = codeW ++ e) := fun x => by
                  have h1 := hMe.out x; rwa [List.take_of_length_le (by rw [HDL.out]; omega)] at h1
                have HF : Hid (InpR ts lab 2 l 0) := .inr (.inr ⟨HVL.out, _, HFT.out, .inr ⟨nb2 (show (2 : Int) ≠ 1 by decide), rfl, hAs.out, fun x => (HM6.out x).trans ⟨fun h => .inr (.inl ⟨rfl, by
                  rcases h with h | ⟨e, he, h⟩
                  · exact .inl h
                  · exact .inr ⟨e, (HFN.out.2.2 e).1 he, h⟩⟩), fun h => by
                  rcases h with ⟨h, _⟩ | ⟨_, h⟩ | ⟨h, _⟩
                  · cases h
                  · rcases h with h | ⟨e, he, h⟩
                    · exact .inl h
                    · exact .inr ⟨e, (HFN.out.2.2 e).2 he, h⟩
                  · cases h⟩⟩⟩)
                go_wp2_with fail
                go_ret2
                exact ⟨Aq, m, cq, l, 0, rfl, hS.out, hmc, hcm5, HB5.out.trans (hBel.out.mono HB5.out.size), HF.out⟩
          · have HF : Hid (InpR ts lab 3 [programW ++ lab] 0) := .inr (.inr ⟨HVL.out, _, HFT.out, .inr ⟨nb3 (show (2 : Int) ≠ 1 by decide), rfl, List.pairwise_singleton _ _, fun x => by
              constructor
              · intro h; exact .inr (.inr ⟨rfl, List.mem_singleton.1 h⟩)
              · rintro (⟨h, _⟩ | ⟨h, _⟩ | ⟨_, h⟩)
                · cases h
                · cases h
                · rw [h]; simp⟩⟩)
            have hcat : ¬ (9223372036854775807 < (⟨#[112, 114, 111, 103, 114, 97, 109, 32]⟩ : ByteArray).size + lab.size) := by show ¬ (_ < 8 + lab.size); omega
            have hbs : Bk (W2.alloc (.cells #[.string (⟨#[112, 114, 111, 103, 114, 97, 109, 32]⟩ ++ lab)] 9)) W2.heap.size 9 #[.string (programW ++ lab)] := Bk.new W2 _ _
            have HSP : Hid (Sl (W2.alloc (.cells #[.string (⟨#[112, 114, 111, 103, 114, 97, 109, 32]⟩ ++ lab)] 9)) (W2.alloc (.cells #[.string (⟨#[112, 114, 111, 103, 114, 97, 109, 32]⟩ ++ lab)] 9)).heap.size 1 (some ⟨W2.heap.size, 0, none⟩) 1 (strs [programW ++ lab])) := Sl.of_bk hbs rfl
            clear k1 kk hbs
            go_wp2_with (go_at_call 29; refine HFD.out.mono ?_; rintro e wf ⟨rfl, rfl⟩)
            go_ret2
            exact ⟨_, 1, 1, _, 0, rfl, HSP.out, Nat.le_refl _, by unfold maxLen; omega, HB2.out.alloc HB2.out.size _, HF.out⟩
end Go.Proofs.YtiphbincnnppdaaDoor

namespace Go.Proofs.YtiphbincnnppdaaDoor
open Go.RowKit Go.Maps

def GrtEnd (n : Nat) (w : World) (e : Ending) (w' : World) : Prop := ∃ r : Bool, e = .returned (.bool r) ∧ (r = false → n ≤ 12) ∧ w = w'
set_option maxRecDepth 100000 in
set_option maxHeartbeats 4000000 in
theorem rgreat_any (A : Option Addr) (n c B : Nat) (ts : List Tg) (w : World) (h0 : Sl w B 4 A n (flat tgC ts)) (hok : ∀ t ∈ ts, TgOk w B t) (hnc : n ≤ c) (hcm : c ≤ maxLen) :
    Calls Tryd.prog 7 #[.slice A n c] w (GrtEnd n w) := by
  have H0 := Lib.hid h0; have HOK := Lib.hid hok
  clear h0 hok
  have hnm : n ≤ 9223372036854775807 := by unfold maxLen at hcm; omega
  go_enter Tryd.func7, Tryd.ntmps7
  go_wp2
  go_loop [3] (fun i => ∃ k : Nat, k ≤ n ∧ i = .int .i64 k) (fun i => n - (intOf i).toNat)
  case atStart => exact ⟨0, Nat.zero_le _, rfl⟩
  case round =>
    obtain ⟨k, hk, rfl⟩ := hrel
    by_cases hlt : k < n
    · obtain ⟨b, off, t, rfl, hbB, ht, y0, y1, y2, y3⟩ := H0.out.tg hlt
      have HTO := Lib.hid (HOK.out t (List.mem_of_getElem? ht))
      have hkz : (k : Int) < (n : Int) := by omega
      have hd1 := HTO.out.dle; have hd2 := HTO.out.dmax; have hv1 := HTO.out.vle; have hv2 := HTO.out.vmax
      have hdm : t.dn ≤ 9223372036854775807 := by unfold maxLen at hd2; omega
      have hvm : t.vn ≤ 9223372036854775807 := by unfold maxLen at hv2; omega
      clear ht hd1 hd2 hv1 hv2
      obtain ⟨tl, kind, dA, dn, dc, deps, vA, vn, vc, vis⟩ := t
      simp only at y0 y1 y2 y3 hdm hvm
      by_cases c1 : (100 : Int) < (tl.size : Int)
      · go_wp2
        go_ret
        exact ⟨true, rfl, (fun e => by cases e), rfl⟩
      by_cases c2 : (12 : Int) < (dn : Int)
      · go_wp2
        go_ret
        exact ⟨true, rfl, (fun e => by cases e), rfl⟩
      by_cases c3 : (12 : Int) < (vn : Int)
      · go_wp2
        go_ret
        exact ⟨true, rfl, (fun e => by cases e), rfl⟩
      go_wp2
      go_loop [4] (fun i => ∃ j : Nat, j ≤ dn ∧ i = .int .i64 j) (fun i => dn - (intOf i).toNat)
      case atStart => exact ⟨0, Nat.zero_le _, rfl⟩
      case round =>
        obtain ⟨j, hj, rfl⟩ := hrel
        by_cases hjl : j < dn
        · obtain ⟨db, doff, d, hde, hdb, hd, z0⟩ := HTO.out.d.str_at hjl
          simp only at hde
          subst hde
          have hjz : (j : Int) < (dn : Int) := by omega
          clear hd
          by_cases c4 : (100 : Int) < (d.size : Int)
          · go_wp2
            go_ret
            exact ⟨true, rfl, (fun e => by cases e), rfl⟩
          · go_wp2
            go_round
            case rel => exact ⟨j + 1, hjl, by go_num⟩
            case measure => simp [intOf]; omega
        · have hjz : ¬ (j : Int) < (dn : Int) := by omega
          go_wp2
          go_loop [5] (fun i => ∃ j : Nat, j ≤ vn ∧ i = .int .i64 j) (fun i => vn - (intOf i).toNat)
          case atStart => exact ⟨0, Nat.zero_le _, rfl⟩
          case round =>
            obtain ⟨i, hi, rfl⟩ := hrel
            by_cases hil : i < vn
            · obtain ⟨db, doff, d, hde, hdb, hd, z0⟩ := HTO.out.v.str_at hil
              simp only at hde
              subst hde
              have hiz : (i : Int) < (vn : Int) := by omega
              clear hd
              by_cases c4 : (100 : Int) < (d.size : Int)
              · go_wp2
                go_ret
                exact ⟨true, rfl, (fun e => by cases e), rfl⟩
              · go_wp2
                go_round
                case rel => exact ⟨i + 1, hil, by go_num⟩
                case measure => simp [intOf]; omega
            · have hiz : ¬ (i : Int) < (vn : Int) := by omega
              go_wp2
              go_round
              case rel => exact ⟨k + 1, hlt, by go_num⟩
              case measure => simp [intOf]; omega
    · have hkz : ¬ (k : Int) < (n : Int) := by omega
      by_cases c5 : (12 : Int) < (n : Int)
      · go_wp2
        go_ret
        exact ⟨true, rfl, (fun e => by cases e), rfl⟩
      · go_wp2
        go_ret
        exact ⟨false, rfl, (fun _ => by omega), rfl⟩
end Go.Proofs.YtiphbincnnppdaaDoor

namespace Go.Proofs.YtiphbincnnppdaaDoor
open Go.RowKit

def lA : ByteArray := ⟨#[97]⟩
def lB : ByteArray := ⟨#[98]⟩
def lT : ByteArray := ⟨#[116]⟩
def awkT (p q : Option Addr) : List Tg := [⟨lA, 1, none, 0, 0, [], none, 0, 0, []⟩, ⟨lB, 1, p, 1, 1, [lA], none, 0, 0, []⟩, ⟨lT, 2, q, 1, 1, [lB], none, 0, 0, []⟩]
theorem awk_find (p q : Option Addr) (s : ByteArray) : findT (awkT p q) s = if lA = s then some ⟨lA, 1, none, 0, 0, [], none, 0, 0, []⟩ else if lB = s then some ⟨lB, 1, p, 1, 1, [lA], none, 0, 0, []⟩ else if lT = s then some ⟨lT, 2, q, 1, 1, [lB], none, 0, 0, []⟩ else none := rfl
theorem ab : lA ≠ lB := by decide
theorem at_ : lA ≠ lT := by decide
theorem bt : lB ≠ lT := by decide
theorem awk_a (p q : Option Addr) : nxT (awkT p q) lA = [] := by rw [nxT, awk_find, if_pos rfl]; rfl
theorem awk_b (p q : Option Addr) : nxT (awkT p q) lB = [lA] := by
  have : isT (awkT p q) lA = true := by rw [isT, awk_find, if_pos rfl]; rfl
  rw [nxT, awk_find, if_neg ab, if_pos rfl]; simp [this]
theorem awk_t (p q : Option Addr) : nxT (awkT p q) lT = [lB] := by
  have : isT (awkT p q) lB = true := by rw [isT, awk_find, if_neg ab, if_pos rfl]; rfl
  rw [nxT, awk_find, if_neg at_, if_neg bt, if_pos rfl]; simp [this]
theorem awk_o (p q : Option Addr) (s : ByteArray) (h1 : lA ≠ s) (h2 : lB ≠ s) (h3 : lT ≠ s) : nxT (awkT p q) s = [] := by
  rw [nxT, awk_find, if_neg h1, if_neg h2, if_neg h3]
theorem awk_step {p q : Option Addr} {s x : ByteArray} (h : x ∈ nxT (awkT p q) s) : (s = lB ∧ x = lA) ∨ (s = lT ∧ x = lB) := by
  by_cases h1 : lA = s
  · rw [← h1, awk_a] at h; cases h
  · by_cases h2 : lB = s
    · rw [← h2, awk_b] at h; exact .inl ⟨h2.symm, List.mem_singleton.1 h⟩
    · by_cases h3 : lT = s
      · rw [← h3, awk_t] at h; exact .inr ⟨h3.symm, List.mem_singleton.1 h⟩
      · rw [awk_o p q s h1 h2 h3] at h; cases h
theorem awk_stp {p q : Option Addr} : ∀ {n : Nat} {s x : ByteArray}, Stp (nxT (awkT p q)) n s x → (s = lB ∧ x = lA) ∨ (s = lT ∧ (x = lB ∨ x = lA))
  | 0, s, x, h => by
    rcases awk_step h with h | h
    · exact .inl h
    · exact .inr ⟨h.1, .inl h.2⟩
  | n + 1, s, x, h => by
    obtain ⟨c, hc, hx⟩ := h
    rcases awk_stp hc with ⟨h1, h2⟩ | ⟨h1, h2⟩
    · rcases awk_step hx with ⟨h3, _⟩ | ⟨h3, _⟩
      · exact absurd (h2.symm.trans h3) ab
      · exact absurd (h2.symm.trans h3) at_
    · rcases awk_step hx with ⟨_, h4⟩ | ⟨h3, _⟩
      · exact .inr ⟨h1, .inr h4⟩
      · rcases h2 with h2 | h2
        · exact absurd (h2.symm.trans h3) bt
        · exact absurd (h2.symm.trans h3) at_
theorem awk_free (p q : Option Addr) (s : ByteArray) : ¬ Rch (nxT (awkT p q)) s s := by
  rintro ⟨n, h⟩
  rcases awk_stp h with ⟨h1, h2⟩ | ⟨h1, h2 | h2⟩
  · exact ab (h2.symm.trans h1)
  · exact bt (h2.symm.trans h1)
  · exact at_ (h2.symm.trans h1)
theorem awk_rch (p q : Option Addr) (x : ByteArray) : Rch (nxT (awkT p q)) lT x ↔ (x = lB ∨ x = lA) := by
  constructor
  · rintro ⟨n, h⟩
    rcases awk_stp h with ⟨h1, _⟩ | ⟨_, h⟩
    · exact absurd h1.symm bt
    · exact h
  · have h1 : Rch (nxT (awkT p q)) lT lB := Rch.one (by rw [awk_t]; simp)
    rintro (rfl | rfl)
    · exact h1
    · exact h1.snoc (by rw [awk_b]; simp)
theorem awk_vld (p q : Option Addr) : Vld (awkT p q) := by
  refine ⟨by simp [awkT], fun t ht => ?_, ?_, awk_free p q⟩
  · simp only [awkT, List.mem_cons, List.mem_nil_iff, or_false] at ht
    rcases ht with rfl | rfl | rfl
    · exact ⟨by kernel_rfl, .inl rfl, by simp, (fun d hd => by cases hd), .nil, rfl⟩
    · exact ⟨by kernel_rfl, .inl rfl, by simp, (fun d hd => by rw [List.mem_singleton.1 hd, kindOf, awk_find, if_pos rfl]), by simp, rfl⟩
    · exact ⟨by kernel_rfl, .inr rfl, by simp, (fun d hd => by rw [List.mem_singleton.1 hd, kindOf, awk_find, if_neg ab, if_pos rfl]), by simp, rfl⟩
  · show Asc [lA, lB, lT]
    unfold Asc
    simp only [List.pairwise_cons, List.mem_cons, List.mem_nil_iff, or_false, forall_eq_or_imp, forall_eq]
    exact ⟨⟨by decide, by decide⟩, by decide, (fun a h => h.elim), .nil⟩
def out1 : List ByteArray := [⟨#[105, 102, 97, 99, 101, 32, 98]⟩, ⟨#[115, 111, 117, 114, 99, 101, 32, 116]⟩]
def out2 : List ByteArray := [⟨#[99, 111, 100, 101, 32, 97]⟩, ⟨#[99, 111, 100, 101, 32, 98]⟩, ⟨#[99, 111, 100, 101, 32, 116]⟩]
def out3 : List ByteArray := [⟨#[112, 114, 111, 103, 114, 97, 109, 32, 116]⟩]
theorem asc1 : Asc out1 := by
  unfold Asc out1
  simp only [List.pairwise_cons, List.mem_cons, List.mem_nil_iff, or_false, forall_eq]
  exact ⟨by decide, (fun a h => h.elim), .nil⟩
theorem asc2 : Asc out2 := by
  unfold Asc out2
  simp only [List.pairwise_cons, List.mem_cons, List.mem_nil_iff, or_false, forall_eq_or_imp, forall_eq]
  exact ⟨⟨by decide, by decide⟩, by decide, (fun a h => h.elim), .nil⟩
theorem asc3 : Asc out3 := by
  unfold Asc out3
  simp only [List.pairwise_cons, List.mem_nil_iff]
  exact ⟨(fun a h => h.elim), .nil⟩
theorem awk_inp {p q : Option Addr} {k : Int} {l : List ByteArray} {err : Int} (h : InpR (awkT p q) lT k l err) (hk : k = 1 ∨ k = 2 ∨ k = 3) :
    err = 0 ∧ Asc l ∧ ∀ x, x ∈ l ↔ InpMem (awkT p q) ⟨lT, 2, q, 1, 1, [lB], none, 0, 0, []⟩ lT k x := by
  have hf : findT (awkT p q) lT = some ⟨lT, 2, q, 1, 1, [lB], none, 0, 0, []⟩ := by rw [awk_find, if_neg at_, if_neg bt, if_pos rfl]
  rcases h with ⟨h, _⟩ | ⟨_, h, _⟩ | ⟨_, t, ht, h⟩
  · exact absurd (awk_vld p q) h
  · rw [isT, hf] at h; cases h
  · rw [hf] at ht; cases ht
    rcases h with ⟨⟨h1, h2⟩, _⟩ | ⟨_, h1, h2, h3⟩
    · rcases h2 with h2 | h2
      · omega
      · exact absurd h2 (by simp)
    · exact ⟨h1, h2, h3⟩
theorem awk1 {p q : Option Addr} {l : List ByteArray} {err : Int} (h : InpR (awkT p q) lT 1 l err) : err = 0 ∧ l = out1 := by
  obtain ⟨h1, h2, h3⟩ := awk_inp h (.inl rfl)
  refine ⟨h1, asc_ext h2 asc1 fun x => (h3 x).trans ?_⟩
  simp only [InpMem, exists_eq_left, out1, List.mem_cons, List.mem_nil_iff, or_false]
  constructor
  · rintro (⟨_, h | h⟩ | ⟨h, _⟩ | ⟨h, _⟩)
    · exact .inr (h.trans (by decide))
    · exact .inl (h.trans (by decide))
    · omega
    · omega
  · rintro (h | h)
    · exact .inl ⟨trivial, .inr (h.trans (by decide))⟩
    · exact .inl ⟨trivial, .inl (h.trans (by decide))⟩
theorem awk2 {p q : Option Addr} {l : List ByteArray} {err : Int} (h : InpR (awkT p q) lT 2 l err) : err = 0 ∧ l = out2 := by
  obtain ⟨h1, h2, h3⟩ := awk_inp h (.inr (.inl rfl))
  refine ⟨h1, asc_ext h2 asc2 fun x => (h3 x).trans ?_⟩
  simp only [InpMem, awk_rch, out2, List.mem_cons, List.mem_nil_iff, or_false]
  constructor
  · rintro (⟨h, _⟩ | ⟨_, h | ⟨d, rfl | rfl, h⟩⟩ | ⟨h, _⟩)
    · omega
    · exact .inr (.inr (h.trans (by decide)))
    · exact .inr (.inl (h.trans (by decide)))
    · exact .inl (h.trans (by decide))
    · omega
  · rintro (h | h | h)
    · exact .inr (.inl ⟨trivial, .inr ⟨lA, .inr rfl, h.trans (by decide)⟩⟩)
    · exact .inr (.inl ⟨trivial, .inr ⟨lB, .inl rfl, h.trans (by decide)⟩⟩)
    · exact .inr (.inl ⟨trivial, .inl (h.trans (by decide))⟩)
theorem awk3 {p q : Option Addr} {l : List ByteArray} {err : Int} (h : InpR (awkT p q) lT 3 l err) : err = 0 ∧ l = out3 := by
  obtain ⟨h1, h2, h3⟩ := awk_inp h (.inr (.inr rfl))
  refine ⟨h1, asc_ext h2 asc3 fun x => (h3 x).trans ?_⟩
  simp only [InpMem, out3, List.mem_cons, List.mem_nil_iff, or_false]
  constructor
  · rintro (⟨h, _⟩ | ⟨h, _⟩ | ⟨_, h⟩)
    · omega
    · omega
    · exact h.trans (by decide)
  · exact fun h => .inr (.inr ⟨trivial, h.trans (by decide)⟩)
end Go.Proofs.YtiphbincnnppdaaDoor

namespace Go.Proofs.YtiphbincnnppdaaDoor
open Go.RowKit Go.Maps

def LawEnd (w : World) (e : Ending) (w' : World) : Prop := e = .returned (.bool true) ∧ Below w.heap.size w w'
theorem smallF_sizes {fs : List Fl} (h : SmallF fs) : fs.length ≤ 30 ∧ ∀ f ∈ fs, f.1.size ≤ maxLen := ⟨h.1, fun f hf => by have := (h.2 f hf).1; unfold maxLen; omega⟩
set_option maxRecDepth 100000 in
set_option maxHeartbeats 2000000 in
theorem awake_any (w : World) : Calls Tryd.prog 8 #[] w fun e w' => e = .returned (.bool true) ∧ Below w.heap.size w w' := by
  go_enter Tryd.func8, Tryd.ntmps8
  go_wp2_with fail
  obtain ⟨W1, hW1⟩ : ∃ W, w.alloc (.cells #[.string ⟨#[97]⟩] 9) = W := ⟨_, rfl⟩
  obtain ⟨W2, hW2⟩ : ∃ W, W1.alloc (.cells #[.string ⟨#[98]⟩] 9) = W := ⟨_, rfl⟩
  obtain ⟨W3, hW3⟩ : ∃ W, W2.alloc (.cells #[.string ⟨#[97]⟩, .int .i64 1, .slice none 0 0, .slice none 0 0, .string ⟨#[98]⟩, .int .i64 1, .slice (some ⟨w.heap.size, 0, none⟩) 1 1, .slice none 0 0, .string ⟨#[116]⟩, .int .i64 2, .slice (some ⟨w.heap.size + 1, 0, none⟩) 1 1, .slice none 0 0] 35) = W := ⟨_, rfl⟩
  obtain ⟨W4, hW4⟩ : ∃ W, W3.alloc (.cells #[.slice (some ⟨w.heap.size + 1 + 1, 0, none⟩) 3 3] 24) = W := ⟨_, rfl⟩
  rw [hW1, hW2, hW3, hW4]
  have z1 : W1.heap.size = w.heap.size + 1 := by rw [← hW1]; simp
  have z2 : W2.heap.size = w.heap.size + 2 := by rw [← hW2]; simp [z1]
  have z3 : W3.heap.size = w.heap.size + 3 := by rw [← hW3]; simp [z2]
  have z4 : W4.heap.size = w.heap.size + 4 := by rw [← hW4]; simp [z3]
  have k1 : Bk W4 w.heap.size 9 #[.string ⟨#[97]⟩] := by rw [← hW4, ← hW3, ← hW2, ← hW1]; exact (((Bk.new w _ _).alloc _).alloc _).alloc _
  have k2 : Bk W4 (w.heap.size + 1) 9 #[.string ⟨#[98]⟩] := by
    rw [← hW4, ← hW3, ← hW2]
    have := ((Bk.new W1 9 #[.string ⟨#[98]⟩]).alloc (.cells #[.string ⟨#[97]⟩, .int .i64 1, .slice none 0 0, .slice none 0 0, .string ⟨#[98]⟩, .int .i64 1, .slice (some ⟨w.heap.size, 0, none⟩) 1 1, .slice none 0 0, .string ⟨#[116]⟩, .int .i64 2, .slice (some ⟨w.heap.size + 1, 0, none⟩) 1 1, .slice none 0 0] 35)).alloc (.cells #[.slice (some ⟨w.heap.size + 1 + 1, 0, none⟩) 3 3] 24)
    rw [z1] at this; exact this
  have k3 : Bk W4 (w.heap.size + 2) 35 #[.string ⟨#[97]⟩, .int .i64 1, .slice none 0 0, .slice none 0 0, .string ⟨#[98]⟩, .int .i64 1, .slice (some ⟨w.heap.size, 0, none⟩) 1 1, .slice none 0 0, .string ⟨#[116]⟩, .int .i64 2, .slice (some ⟨w.heap.size + 1, 0, none⟩) 1 1, .slice none 0 0] := by
    rw [← hW4, ← hW3]
    have := (Bk.new W2 35 #[.string ⟨#[97]⟩, .int .i64 1, .slice none 0 0, .slice none 0 0, .string ⟨#[98]⟩, .int .i64 1, .slice (some ⟨w.heap.size, 0, none⟩) 1 1, .slice none 0 0, .string ⟨#[116]⟩, .int .i64 2, .slice (some ⟨w.heap.size + 1, 0, none⟩) 1 1, .slice none 0 0]).alloc (.cells #[.slice (some ⟨w.heap.size + 1 + 1, 0, none⟩) 3 3] 24)
    rw [z2] at this; exact this
  have k4 : Bk W4 (w.heap.size + 3) 24 #[.slice (some ⟨w.heap.size + 1 + 1, 0, none⟩) 3 3] := by
    rw [← hW4]
    have := Bk.new W3 24 #[.slice (some ⟨w.heap.size + 1 + 1, 0, none⟩) 3 3]
    rw [z3] at this; exact this
  have HB0 : Hid (Below w.heap.size w W4) := by
    rw [← hW4, ← hW3, ← hW2, ← hW1]; exact ((((Below.refl _ w).alloc (Nat.le_refl _) _).alloc (by simp) _).alloc (by simp; omega) _).alloc (by simp; omega) _
  have HS : Hid (Sl W4 W4.heap.size 4 (some ⟨w.heap.size + 1 + 1, 0, none⟩) 3 (flat tgC (awkT (some ⟨w.heap.size, 0, none⟩) (some ⟨w.heap.size + 1, 0, none⟩)))) := Sl.of_bk k3 rfl
  have HOK : Hid (∀ t ∈ awkT (some ⟨w.heap.size, 0, none⟩) (some ⟨w.heap.size + 1, 0, none⟩), TgOk W4 W4.heap.size t) := by
    intro t ht
    have ml : ∀ s ∈ [lA, lB, lT], s.size ≤ maxLen := by decide
    simp only [awkT, List.mem_cons, List.mem_nil_iff, or_false] at ht
    rcases ht with rfl | rfl | rfl
    · exact ⟨Sl.nil _ _ _ _, Nat.le_refl _, Nat.zero_le _, Sl.nil _ _ _ _, Nat.le_refl _, Nat.zero_le _, ml _ (by simp), (fun s hs => by cases hs), (fun s hs => by cases hs)⟩
    · exact ⟨Sl.of_bk k1 rfl, Nat.le_refl _, show 1 ≤ maxLen by decide, Sl.nil _ _ _ _, Nat.le_refl _, Nat.zero_le _, ml _ (by simp), (fun s hs => by rw [List.mem_singleton.1 hs]; exact ml _ (by simp)), (fun s hs => by cases hs)⟩
    · exact ⟨Sl.of_bk k2 rfl, Nat.le_refl _, show 1 ≤ maxLen by decide, Sl.nil _ _ _ _, Nat.le_refl _, Nat.zero_le _, ml _ (by simp), (fun s hs => by rw [List.mem_singleton.1 hs]; exact ml _ (by simp)), (fun s hs => by cases hs)⟩
  have hls : lT.size ≤ maxLen := by decide
  have K4 := Lib.hid k4
  clear k1 k2 k3 k4 z1 z2 z3 hW1 hW2 hW3 hW4
  have HI1 := Lib.hid (inputs_any (some ⟨w.heap.size + 1 + 1, 0, none⟩) 3 3 W4.heap.size (awkT (some ⟨w.heap.size, 0, none⟩) (some ⟨w.heap.size + 1, 0, none⟩)) lT 1 W4 HS.out HOK.out (Nat.le_refl _) (Nat.le_refl _) (by decide) hls)
  refine HI1.out.mono ?_
  rintro e w1 ⟨A1, n1, c1, l1, e1, rfl, s1, m1, x1, hb1, r1⟩
  obtain ⟨rfl, rfl⟩ := awk1 r1
  have K41 := Lib.hid (K4.out.below hb1 (by omega)); have u0 := K41.out.cell 0; simp at u0
  have S1 := Lib.hid s1; have M1 := Lib.hid (Nat.le_trans m1 x1)
  have HB1 := Lib.hid hb1
  have y1 := hb1.size
  have HI2 := Lib.hid (inputs_any (some ⟨w.heap.size + 1 + 1, 0, none⟩) 3 3 W4.heap.size (awkT (some ⟨w.heap.size, 0, none⟩) (some ⟨w.heap.size + 1, 0, none⟩)) lT 2 w1 (HS.out.below hb1 (Nat.le_refl _)) (fun t ht => (HOK.out t ht).below hb1 (Nat.le_refl _)) y1 (Nat.le_refl _) (by decide) hls)
  clear s1 m1 x1 hb1 r1 K4 HI1
  go_wp2_with fail
  refine HI2.out.mono ?_
  rintro e w2 ⟨A2, n2, c2, l2, e2, rfl, s2, m2, x2, hb2, r2⟩
  obtain ⟨rfl, rfl⟩ := awk2 r2
  have y2 := hb2.size
  have K42 := Lib.hid (K41.out.below hb2 (by omega))
  have HB2 : Hid (Below W4.heap.size W4 w2) := HB1.out.trans (hb2.mono y1)
  have S12 := Lib.hid (S1.out.on hb2)
  have S2 := Lib.hid s2; have M2 := Lib.hid (Nat.le_trans m2 x2)
  have HI3 := Lib.hid (inputs_any (some ⟨w.heap.size + 1 + 1, 0, none⟩) 3 3 W4.heap.size (awkT (some ⟨w.heap.size, 0, none⟩) (some ⟨w.heap.size + 1, 0, none⟩)) lT 3 w2 (HS.out.below HB2.out (Nat.le_refl _)) (fun t ht => (HOK.out t ht).below HB2.out (Nat.le_refl _)) (Nat.le_trans y1 y2) (Nat.le_refl _) (by decide) hls)
  clear s2 m2 x2 hb2 r2 K41 HI2 u0 HB1 S1
  have u0 := K42.out.cell 0; simp at u0
  go_wp2_with fail
  refine HI3.out.mono ?_
  rintro e w3 ⟨A3, n3, c3, l3, e3, rfl, s3, m3, x3, hb3, r3⟩
  obtain ⟨rfl, rfl⟩ := awk3 r3
  have y3 := hb3.size
  have HB3 : Hid (Below w.heap.size w w3) := HB0.out.trans ((HB2.out.trans (hb3.mono (Nat.le_trans y1 y2))).mono (by omega))
  have S13 := Lib.hid (S12.out.on hb3); have S23 := Lib.hid (S2.out.on hb3)
  have S3 := Lib.hid s3; have M3 := Lib.hid (Nat.le_trans m3 x3)
  clear s3 m3 x3 hb3 r3 K42 HI3 u0 HB2 S12 S2 HS HOK HB0
  go_wp2_with fail
  have q1 := Sl.of_bk (Bk.new w3 9 #[.string ⟨#[105, 102, 97, 99, 101, 32, 98]⟩, .string ⟨#[115, 111, 117, 114, 99, 101, 32, 116]⟩]) (n := 2) (size := 1) rfl
  refine (sameS_any A1 _ n1 c1 2 2 _ out1 out1 _ (S13.out.boxed _) q1 M1.out).mono ?_
  rintro e w4 ⟨rfl, k, rfl⟩
  rw [decide_eq_true rfl]
  obtain ⟨w4, hw4⟩ : ∃ W, (w3.alloc (.cells #[.string ⟨#[105, 102, 97, 99, 101, 32, 98]⟩, .string ⟨#[115, 111, 117, 114, 99, 101, 32, 116]⟩] 9)).drewN k = W := ⟨_, rfl⟩
  have HB4 : Hid (Below w.heap.size w w4) := by rw [← hw4]; exact below_drewN (HB3.out.alloc (by omega) _) k
  have S24 : Hid (Sl w4 w4.heap.size 1 A2 n2 (strs out2)) := by rw [← hw4]; exact (S23.out.boxed _).drewN k
  have S34 : Hid (Sl w4 w4.heap.size 1 A3 n3 (strs out3)) := by rw [← hw4]; exact (S3.out.boxed _).drewN k
  have y4 := HB4.out.size
  rw [hw4]
  clear q1 HB3 S13 S23 S3 hw4
  go_wp2_with fail
  have q1 := Sl.of_bk (Bk.new w4 9 #[.string ⟨#[99, 111, 100, 101, 32, 97]⟩, .string ⟨#[99, 111, 100, 101, 32, 98]⟩, .string ⟨#[99, 111, 100, 101, 32, 116]⟩]) (n := 3) (size := 1) rfl
  refine (sameS_any A2 _ n2 c2 3 3 _ out2 out2 _ (S24.out.boxed _) q1 M2.out).mono ?_
  rintro e w5 ⟨rfl, k5, rfl⟩
  rw [decide_eq_true rfl]
  obtain ⟨w5, hw5⟩ : ∃ W, (w4.alloc (.cells #[.string ⟨#[99, 111, 100, 101, 32, 97]⟩, .string ⟨#[99, 111, 100, 101, 32, 98]⟩, .string ⟨#[99, 111, 100, 101, 32, 116]⟩] 9)).drewN k5 = W := ⟨_, rfl⟩
  have HB5 : Hid (Below w.heap.size w w5) := by rw [← hw5]; exact below_drewN (HB4.out.alloc (by omega) _) k5
  have S35 : Hid (Sl w5 w5.heap.size 1 A3 n3 (strs out3)) := by rw [← hw5]; exact (S34.out.boxed _).drewN k5
  have y5 := HB5.out.size
  rw [hw5]
  clear q1 HB4 S24 S34 hw5
  go_wp2_with fail
  have q1 := Sl.of_bk (Bk.new w5 9 #[.string ⟨#[112, 114, 111, 103, 114, 97, 109, 32, 116]⟩]) (n := 1) (size := 1) rfl
  refine (sameS_any A3 _ n3 c3 1 1 _ out3 out3 _ (S35.out.boxed _) q1 M3.out).mono ?_
  rintro e w6 ⟨rfl, k6, rfl⟩
  rw [decide_eq_true rfl]
  have HB6 : Hid (Below w.heap.size w ((w5.alloc (.cells #[.string ⟨#[112, 114, 111, 103, 114, 97, 109, 32, 116]⟩] 9)).drewN k6)) := below_drewN (HB5.out.alloc (by omega) _) k6
  clear q1
  go_wp2_with fail
  go_ret
  exact ⟨rfl, HB6.out⟩
end Go.Proofs.YtiphbincnnppdaaDoor

namespace Go.Proofs.YtiphbincnnppdaaDoor
open Go.RowKit Go.Maps

set_option maxRecDepth 100000 in
set_option maxHeartbeats 4000000 in
theorem lawInp_any (A : Option Addr) (n c : Nat) (ts : List Tg) (lab : ByteArray) (kd : Int) (w : World) (h0 : Sl w w.heap.size 4 A n (flat tgC ts)) (hok : ∀ t ∈ ts, TgOk w w.heap.size t) (hnc : n ≤ c) (hcm : c ≤ maxLen) (hls : lab.size ≤ maxLen) :
    Calls Tryd.prog 3 #[.agg #[.slice A n c], .string lab, .int .i64 kd] w (LawEnd w) := by
  have H0 := Lib.hid h0; have HOK := Lib.hid hok; have HLS := Lib.hid hls
  clear h0 hok
  have hlm : lab.size ≤ 9223372036854775807 := by unfold maxLen at hls; exact hls
  clear hls
  obtain ⟨W0, hW0⟩ : ∃ W0, w.alloc (.cells #[.slice A n c] 24) = W0 := ⟨_, rfl⟩
  have HB0 : Hid (Below w.heap.size w W0) := by rw [← hW0]; exact (Below.refl _ w).alloc (Nat.le_refl _) _
  have zW0 : W0.heap.size = w.heap.size + 1 := by rw [← hW0]; simp
  have HG : Hid (Bk W0 w.heap.size 24 #[.slice A n c]) := by rw [← hW0]; exact Bk.new w _ _
  have g0 := HG.out.cell 0
  simp at g0
  have HGR := Lib.hid (rgreat_any A n c w.heap.size ts W0 (H0.out.below HB0.out (Nat.le_refl _)) (fun t ht => (HOK.out t ht).below HB0.out (Nat.le_refl _)) hnc hcm)
  have HIN := Lib.hid (inputs_any A n c w.heap.size ts lab kd W0 (H0.out.below HB0.out (Nat.le_refl _)) (fun t ht => (HOK.out t ht).below HB0.out (Nat.le_refl _)) (by omega) hnc hcm HLS.out)
  go_enter Tryd.func3, Tryd.ntmps3
  go_wp2_with fail
  refine HGR.out.mono ?_
  rintro e w1 ⟨r, rfl, _, rfl⟩
  cases r with
  | true =>
    go_wp2_with fail
    refine (awake_any _).mono ?_
    rintro e wz ⟨rfl, hbz⟩
    have HBz := Lib.hid (HB0.out.trans (hbz.mono (by omega))); clear hbz
    go_wp2_with fail
    go_ret
    exact ⟨rfl, HBz.out⟩
  | false =>
    by_cases hl : (200 : Int) < (lab.size : Int)
    · go_wp2_with fail
      refine (awake_any _).mono ?_
      rintro e wz ⟨rfl, hbz⟩
      have HBz := Lib.hid (HB0.out.trans (hbz.mono (by omega))); clear hbz
      go_wp2_with fail
      go_ret
      exact ⟨rfl, HBz.out⟩
    · go_wp2_with fail
      refine HIN.out.mono ?_
      rintro e w2 ⟨A2, n2, c2, l2, e2, rfl, hs2, hn2, hc2, hb2, hr2⟩
      have HB2 : Hid (Below w.heap.size w w2) := HB0.out.trans (hb2.mono (by omega))
      have HG2 := Lib.hid (HG.out.below hb2 (by omega))
      have HS2 := Lib.hid hs2
      have HRI := Lib.hid (rinputs_any A n c w.heap.size ts lab kd w2 (H0.out.below HB2.out (Nat.le_refl _)) (fun t ht => (HOK.out t ht).below HB2.out (Nat.le_refl _)) HB2.out.size hnc hcm)
      have HR2 := Lib.hid hr2
      have hm2 : n2 ≤ maxLen := Nat.le_trans hn2 hc2
      clear hs2 hn2 hc2 hb2 hr2 g0 HIN HGR hW0
      have g0 := HG2.out.cell 0
      simp at g0
      go_wp2_with fail
      refine HRI.out.mono ?_
      rintro e w3 ⟨A3, n3, c3, l3, e3, rfl, hs3, hn3, hc3, hb3, hr3⟩
      obtain ⟨rfl, rfl⟩ := HR2.out.same hr3
      have HB3 : Hid (Below w.heap.size w w3) := HB2.out.trans (hb3.mono HB2.out.size)
      have HSM : Hid (Calls Tryd.prog 11 #[.slice A2 n2 c2, .slice A3 n3 c3] w3 fun e w' => e = .returned (.bool true) ∧ ∃ k, w' = w3.drewN k) :=
        (sameS_any A2 A3 n2 c2 n3 c3 w3.heap.size l2 l2 w3 ((HS2.out.below hb3 (Nat.le_refl _)).more hb3.size) hs3 hm2).mono (fun e w' h => ⟨h.1.trans (ret_bool (decide_eq_true rfl)), h.2⟩)
      clear hs3 hb3 hr3 g0 HRI
      go_wp2_with fail
      refine HSM.out.mono ?_
      rintro e w4 ⟨rfl, q, rfl⟩
      have HB4 : Hid (Below w.heap.size w (w3.drewN q)) := below_drewN HB3.out q
      go_wp2_with fail
      refine (awake_any _).mono ?_
      rintro e wz ⟨rfl, hbz⟩
      have HBz := Lib.hid (HB4.out.trans (hbz.mono HB4.out.size)); clear hbz
      go_wp2_with fail
      go_ret
      exact ⟨rfl, HBz.out⟩
end Go.Proofs.YtiphbincnnppdaaDoor
