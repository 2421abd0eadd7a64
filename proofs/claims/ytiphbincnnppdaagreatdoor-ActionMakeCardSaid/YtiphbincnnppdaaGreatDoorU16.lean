/-
  Lemmas: The reference's Deps and Inputs. Drawn regions, one of whose operations makes a box. The reference's Make. SameReady on equal actions with their files. The reference's bounds on targets: it answers. ActionMake.
-/
import Derived.BigQuiet
import Derived.Test.YtiphbincnnppdaaGreatDoorU15

namespace Go.Proofs.YtiphbincnnppdaaGreatDoor
open Go.RowKit Go.Maps

set_option maxRecDepth 100000 in
set_option maxHeartbeats 4000000 in
theorem rdeps_any (A : Option Addr) (n c B : Nat) (ts : List Tg) (lab : ByteArray) (w : World) (h0 : Sl w B 4 A n (flat tgC ts)) (hok : ∀ t ∈ ts, TgOk w B t) (hB : B ≤ w.heap.size) (hnc : n ≤ c) (hcm : c ≤ maxLen) :
    Calls Tryz.prog 58 #[.agg #[.slice A n c], .string lab] w (FndEnd ts lab w) := by
  have HTL := Lib.hid (h0.len tgC_len (by omega))
  have H0 := Lib.hid h0; have HOK := Lib.hid hok
  clear h0 hok
  have hnm : n ≤ 9223372036854775807 := by unfold maxLen at hcm; omega
  obtain ⟨W0, hW0⟩ : ∃ W0, w.alloc (.cells #[.slice A n c] 24) = W0 := ⟨_, rfl⟩
  have HB0 : Hid (Below w.heap.size w W0) := by rw [← hW0]; exact (Below.refl _ w).alloc (Nat.le_refl _) _
  have zW0 : W0.heap.size = w.heap.size + 1 := by rw [← hW0]; simp
  have HG : Hid (Bk W0 w.heap.size 24 #[.slice A n c]) := by rw [← hW0]; exact Bk.new w _ _
  have g0 := HG.out.cell 0
  simp at g0
  have HV := Lib.hid (rvalid_any A n c B ts W0 (H0.out.below HB0.out hB) (fun t ht => (HOK.out t ht).below HB0.out hB) (by omega) hnc hcm)
  go_enter Tryz.func58, Tryz.ntmps58
  go_wp2_with (go_at_call 56; refine HV.out.mono ?_; rintro e w1 ⟨r, rfl, hr, hb1⟩; refine halt_ ?_)
  refine unhalt ?_
  have HR := Lib.hid hr
  have HB1 : Hid (Below w.heap.size w w1) := HB0.out.trans (hb1.mono (by omega))
  have HG1 := Lib.hid (HG.out.below hb1 (by omega))
  clear hr hb1 g0 HV hW0
  have g0 := HG1.out.cell 0
  simp at g0
  cases r with
  | false =>
    have HN : Hid (¬ Vld ts) := fun h => by have := HR.out.2 h; cases this
    go_wp2
    go_ret2
    exact ⟨_, 0, 0, [], 1, rfl, Sl.nil _ _ _ _, Nat.le_refl _, Nat.zero_le _, HB1.out.alloc HB1.out.size _, .inl ⟨HN.out, rfl, rfl⟩⟩
  | true =>
    have HVL := Lib.hid (HR.out.1 rfl)
    have HFD := Lib.hid (rfind_any A n c B ts lab w1 (H0.out.below HB1.out hB) hnm)
    have hn100 : n ≤ 100 := by have := HVL.out.few; rw [HTL.out] at this; exact this
    have HRE := Lib.hid (rreach_any A n c B ts lab w1 (H0.out.below HB1.out hB) (fun t ht => (HOK.out t ht).below HB1.out hB) (Nat.le_trans hB HB1.out.size) (by omega))
    cases hit : isT ts lab with
    | false =>
      have hp : posI ts lab = -1 := by
        have := posI_isT ts lab; rw [hit] at this
        have h2 : ¬ (0 ≤ posI ts lab) := of_decide_eq_false this.symm
        exact posI_neg ts lab (by omega)
      rw [hp] at HFD
      have HF : Hid (FndR ts lab [] 8) := .inr (.inl ⟨HVL.out, hit, rfl, rfl⟩)
      clear hit hp
      go_wp2_with (go_at_call 57; refine HFD.out.mono ?_; rintro e wf ⟨rfl, rfl⟩)
      go_ret2
      exact ⟨_, 0, 0, [], 8, rfl, Sl.nil _ _ _ _, Nat.le_refl _, Nat.zero_le _, HB1.out.alloc HB1.out.size _, HF.out⟩
    | true =>
      obtain ⟨pk, hpk⟩ : ∃ pk : Nat, posI ts lab = pk := by
        have := posI_isT ts lab; rw [hit] at this
        have h2 : 0 ≤ posI ts lab := of_decide_eq_true this.symm
        exact ⟨(posI ts lab).toNat, by omega⟩
      rw [hpk] at HFD
      have HIT := Lib.hid hit
      have hpz : ¬ ((pk : Int) < 0) := by omega
      clear hit hpk
      go_wp2_with (first
        | (go_at_call 57; refine HFD.out.mono ?_; rintro e wf ⟨rfl, rfl⟩)
        | (go_at_call 80; refine HRE.out.mono ?_; rintro e w2 ⟨A', c', l, rfl, hs1, hs2, hs3, hs4, hs5, hs6, hs7⟩))
      go_ret2
      exact ⟨A', l.length, c', l, 0, rfl, hs1, hs2, hs3, HB1.out.trans (hs4.mono HB1.out.size), .inr (.inr ⟨HVL.out, HIT.out, rfl, hs5, hs7⟩)⟩
theorem insS_le (l : List ByteArray) (s : ByteArray) : (insS l s).length ≤ l.length + 1 := by
  induction l with
  | nil => simp [insS]
  | cons a l ih =>
    simp only [insS]
    split
    · simp; exact ih
    · split <;> simp
theorem nb1 {t : Tg} : ¬ BadK 1 t := fun h => h.1 rfl
theorem nb2 {t : Tg} (h : t.kind ≠ 1) : ¬ BadK 2 t := fun g => by
  rcases g.2 with g | g
  · exact g.1 rfl
  · exact h g
theorem nb3 {t : Tg} (h : t.kind ≠ 1) : ¬ BadK 3 t := fun g => by
  rcases g.2 with g | g
  · exact g.2 rfl
  · exact h g

set_option maxRecDepth 100000 in
set_option maxHeartbeats 8000000 in
theorem rinputs_any (A : Option Addr) (n c B : Nat) (ts : List Tg) (lab : ByteArray) (kd : Int) (w : World) (h0 : Sl w B 4 A n (flat tgC ts)) (hok : ∀ t ∈ ts, TgOk w B t) (hB : B ≤ w.heap.size) (hnc : n ≤ c) (hcm : c ≤ maxLen) :
    Calls Tryz.prog 29 #[.agg #[.slice A n c], .string lab, .int .i64 kd] w (InpEnd ts lab kd w) := by
  have HTL := Lib.hid (h0.len tgC_len (by omega))
  have H0 := Lib.hid h0; have HOK := Lib.hid hok
  clear h0 hok
  have hnm : n ≤ 9223372036854775807 := by unfold maxLen at hcm; omega
  obtain ⟨W0, hW0⟩ : ∃ W0, w.alloc (.cells #[.slice A n c] 24) = W0 := ⟨_, rfl⟩
  have HB0 : Hid (Below w.heap.size w W0) := by rw [← hW0]; exact (Below.refl _ w).alloc (Nat.le_refl _) _
  have zW0 : W0.heap.size = w.heap.size + 1 := by rw [← hW0]; simp
  have HG : Hid (Bk W0 w.heap.size 24 #[.slice A n c]) := by rw [← hW0]; exact Bk.new w _ _
  have g0 := HG.out.cell 0
  simp at g0
  have HV := Lib.hid (rvalid_any A n c B ts W0 (H0.out.below HB0.out hB) (fun t ht => (HOK.out t ht).below HB0.out hB) (by omega) hnc hcm)
  go_enter Tryz.func29, Tryz.ntmps29
  go_wp2_with (go_at_call 56; refine HV.out.mono ?_; rintro e w1 ⟨r, rfl, hr, hb1⟩; refine halt_ ?_)
  refine unhalt ?_
  have HR := Lib.hid hr
  have HB1 : Hid (Below w.heap.size w w1) := HB0.out.trans (hb1.mono (by omega))
  have HG1 := Lib.hid (HG.out.below hb1 (by omega))
  clear hr hb1 g0 HV hW0
  have g0 := HG1.out.cell 0
  simp at g0
  cases r with
  | false =>
    have HN : Hid (InpR ts lab kd [] 1) := .inl ⟨fun h => (by have := HR.out.2 h; cases this), rfl, rfl⟩
    go_wp2
    go_ret2
    exact InpEnd.none_ HN.out HB1.out
  | true =>
    have HVL := Lib.hid (HR.out.1 rfl)
    have HFD := Lib.hid (rfind_any A n c B ts lab w1 (H0.out.below HB1.out hB) hnm)
    have hn100 : n ≤ 100 := by have := HVL.out.few; rw [HTL.out] at this; exact this
    cases hft : findT ts lab with
    | none =>
      rw [posI_none hft] at HFD
      have HF : Hid (InpR ts lab kd [] 8) := .inr (.inl ⟨HVL.out, by unfold isT; rw [hft]; rfl, rfl, rfl⟩)
      clear hft
      go_wp2_with (go_at_call 57; refine HFD.out.mono ?_; rintro e wf ⟨rfl, rfl⟩)
      go_ret2
      exact InpEnd.none_ HF.out HB1.out
    | some t =>
      obtain ⟨ki, hki, hti⟩ := posI_some hft
      have hkn : ki < n := by have := (List.getElem?_eq_some_iff.1 hti).1; rw [HTL.out] at this; exact this
      have HTO := Lib.hid (HOK.out t (List.mem_of_getElem? hti))
      have HTD := Lib.hid (HVL.out.at_ hti)
      have HFT := Lib.hid hft
      have HIT : Hid (isT ts lab = true) := by show _ = _; unfold isT; rw [hft]; rfl
      have hl90 : lab.size ≤ 90 := vld_size HVL.out HIT.out
      obtain ⟨b, off, t', rfl, hbB, ht', y0, y1, y2, y3⟩ := (H0.out.below HB1.out hB).tg hkn
      rw [hti] at ht'
      cases ht'
      have hkz : (ki : Int) < (n : Int) := by omega
      have hkz2 : ¬ ((ki : Int) < 0) := by omega
      rw [hki] at HFD
      have hkk : t.kind = 1 ∨ t.kind = 2 := HTD.out.kind
      have hdl : t.deps.length = t.dn := HTO.out.dlen
      have hdf : t.deps.length ≤ 20 := HTD.out.few
      clear hft hki hti
      obtain ⟨tl, kind, dA, dn, dc, deps, vA, vn, vc, vis⟩ := t
      simp only at y0 y1 y2 y3 hkk hdl hdf
      obtain ⟨W2, hW2⟩ : ∃ W2, w1.alloc (.cells #[.string tl, .int .i64 kind, .slice dA dn dc, .slice vA vn vc] 60) = W2 := ⟨_, rfl⟩
      have hkt : Bk W2 w1.heap.size 60 #[.string tl, .int .i64 kind, .slice dA dn dc, .slice vA vn vc] := by rw [← hW2]; exact Bk.new w1 _ _
      have HB2 : Hid (Below w.heap.size w W2) := by rw [← hW2]; exact HB1.out.alloc HB1.out.size _
      have x1 := hkt.cell 1; have x2 := hkt.cell 2
      simp at x1 x2
      have HDL := Lib.hid hdl
      have hdn20 : dn ≤ 20 := by omega
      clear hkt hdl hdf
      by_cases k1 : kd = 1
      · subst k1
        have H90 : Hid (∀ d ∈ deps, d.size ≤ 90) := fun d hd => vld_size HVL.out (kindOf_isT (HTD.out.dep d hd))
        go_wp2_with (go_at_call 57; refine HFD.out.mono ?_; rintro e wf ⟨rfl, rfl⟩)
        all_goals
          go_quiet (fail)
          obtain ⟨W4, hW4⟩ : ∃ W4, W2.drewN nq = W4 := ⟨_, rfl⟩
          have HB4 : Hid (Below w.heap.size w W4) := by rw [← hW4]; exact below_drewN HB2.out nq
          have HDS : Hid (Sl W4 W4.heap.size 1 dA dn (strs deps)) := (HTO.out.d.below HB4.out hB).more (Nat.le_trans hB HB4.out.size)
          rw [hW4]
          clear hW2 hW4 y0 y1 y2 y3 g0 x1 x2
          have hcat : ¬ (9223372036854775807 < (⟨#[115, 111, 117, 114, 99, 101, 32]⟩ : ByteArray).size + lab.size) := by show ¬ (_ < 7 + lab.size); omega
          obtain ⟨W5, hW5⟩ : ∃ W5, W4.alloc (.cells #[.string (⟨#[115, 111, 117, 114, 99, 101, 32]⟩ ++ lab)] 9) = W5 := ⟨_, rfl⟩
          have hbs : Bk W5 W4.heap.size 9 #[.string (sourceW ++ lab)] := by rw [← hW5]; exact Bk.new W4 _ _
          have zW5 : W5.heap.size = W4.heap.size + 1 := by rw [← hW5]; simp
          have HB5 : Hid (Below w.heap.size w W5) := by rw [← hW5]; exact HB4.out.alloc HB4.out.size _
          have HD5 : Hid (Sl W5 W5.heap.size 1 dA dn (strs deps)) := by rw [← hW5]; exact (HDS.out.alloc (Nat.le_refl _) _).more (by simp)
          have HS5 : Hid (Sl W5 W5.heap.size 1 (some ⟨W4.heap.size, 0, none⟩) 1 (strs [sourceW ++ lab])) := Sl.of_bk hbs rfl
          clear hbs
          go_wp2_with fail
          go_loopw [13, 14] (fun q13 q14 wr => ∃ (k : Nat) (Aq : Option Addr) (cq m : Nat) (l : List ByteArray), k ≤ dn ∧ q14 = .int .i64 k ∧ q13 = .slice Aq m cq ∧ m ≤ cq ∧ cq ≤ maxLen ∧ m ≤ k + 1 ∧ Hid (m = l.length) ∧ Hid (Sl wr wr.heap.size 1 Aq m (strs l)) ∧ Hid (Asc l) ∧ Hid (∀ x, x ∈ l ↔ x = sourceW ++ lab ∨ ∃ d ∈ deps.take k, x = ifaceW ++ d) ∧ Hid (Below W5.heap.size W5 wr)) (fun _ q14 _ => dn - (intOf q14).toNat)
          case atStart => exact ⟨0, _, 1, 1, [sourceW ++ lab], Nat.zero_le _, rfl, rfl, Nat.le_refl _, by unfold maxLen; omega, by omega, rfl, HS5.out, List.pairwise_singleton _ _, fun x => by simp, Below.refl _ _⟩
          case round =>
            obtain ⟨k, Aq, cq, m, l, hk, rfl, rfl, hmc, hcm5, hmk, hml, hS, hAs, hMe, hBel⟩ := hrel
            have hwr := hBel.out.size
            by_cases hlt : k < dn
            · obtain ⟨db, doff, d, rfl, hdb, hd, y0⟩ := (HD5.out.below hBel.out (Nat.le_refl _)).str_at hlt
              have hlz : (k : Int) < (dn : Int) := by omega
              have HTK := Lib.hid (take_snoc hd)
              have hd90 : d.size ≤ 90 := H90.out d (List.mem_of_getElem? hd)
              have hcat2 : ¬ (9223372036854775807 < (⟨#[105, 102, 97, 99, 101, 32]⟩ : ByteArray).size + d.size) := by show ¬ (_ < 6 + d.size); omega
              have HWI : Hid (Calls Tryz.prog 59 #[.slice Aq m cq, .string (⟨#[105, 102, 97, 99, 101, 32]⟩ ++ d)] wr (InsEnd l (ifaceW ++ d) wr)) := rwith_any Aq m cq wr.heap.size l (ifaceW ++ d) wr hS.out (Nat.le_refl _) hmc hcm5 (by omega)
              clear hd
              go_wp2_with (go_at_call 59; refine HWI.out.mono ?_; rintro e w6 ⟨A6, c6, rfl, hs6, h61, h62, hb6, _⟩; refine halt_ ?_)
              refine unhalt ?_
              have HS6 := Lib.hid hs6
              have HA6 : Hid (Asc (insS l (ifaceW ++ d))) := asc_insS _ hAs.out
              have HM6 : Hid (∀ x, x ∈ insS l (ifaceW ++ d) ↔ x = sourceW ++ lab ∨ ∃ e ∈ deps.take (k + 1), x = ifaceW ++ e) := fun x => by
                rw [mem_insS, hMe.out x, HTK.out]
                constructor
                · rintro ((h | ⟨e, he, h⟩) | h)
                  · exact .inl h
                  · exact .inr ⟨e, List.mem_append_left _ he, h⟩
                  · exact .inr ⟨d, by simp, h⟩
                · rintro (h | ⟨e, he, h⟩)
                  · exact .inl (.inl h)
                  · rcases List.mem_append.1 he with he | he
                    · exact .inl (.inr ⟨e, he, h⟩)
                    · rw [List.mem_singleton.1 he] at h; exact .inr h
              have HB6 : Hid (Below W5.heap.size W5 w6) := hBel.out.trans (hb6.mono hwr)
              have hl6 : (insS l (ifaceW ++ d)).length ≤ k + 1 + 1 := by have := insS_le l (ifaceW ++ d); have := hml.out; omega
              obtain ⟨m6, hm6⟩ : ∃ m6, (insS l (ifaceW ++ d)).length = m6 := ⟨_, rfl⟩
              rw [hm6] at HS6 h61 hl6
              have HL6 := Lib.hid hm6.symm
              rw [hm6]
              clear hs6 hb6 HWI y0 hm6
              go_wp2_with fail
              go_roundw
              case rel => exact ⟨k + 1, A6, c6, m6, _, hlt, by go_num, rfl, h61, h62, by omega, HL6.out, HS6.out, HA6.out, HM6.out, HB6.out⟩
              case measure => simp [intOf]; omega
            · have hlz : ¬ (k : Int) < (dn : Int) := by omega
              have HM6 : Hid (∀ x, x ∈ l ↔ x = sourceW ++ lab ∨ ∃ e ∈ deps, x = ifaceW ++ e) := fun x => by
                have h1 := hMe.out x; rwa [List.take_of_length_le (by rw [HDL.out]; omega)] at h1
              have HF : Hid (InpR ts lab 1 l 0) := .inr (.inr ⟨HVL.out, _, HFT.out, .inr ⟨nb1, rfl, hAs.out, fun x => (HM6.out x).trans ⟨fun h => .inl ⟨rfl, h⟩, fun h => by
                rcases h with ⟨_, h⟩ | ⟨h, _⟩ | ⟨h, _⟩
                · exact h
                · cases h
                · cases h⟩⟩⟩)
              go_wp2_with fail
              go_ret2
              exact ⟨Aq, m, cq, l, 0, rfl, hS.out, hmc, hcm5, HB5.out.trans (hBel.out.mono HB5.out.size), HF.out⟩
      · by_cases k3 : kd = 2 ∨ kd = 3
        case neg =>
          have HF : Hid (InpR ts lab kd [] 9) := .inr (.inr ⟨HVL.out, _, HFT.out, .inl ⟨⟨k1, .inl ⟨fun e => k3 (.inl e), fun e => k3 (.inr e)⟩⟩, rfl, rfl⟩⟩)
          by_cases k4 : kd < 1
          · clear k1 k3
            go_wp2_with (go_at_call 57; refine HFD.out.mono ?_; rintro e wf ⟨rfl, rfl⟩)
            go_ret2
            exact InpEnd.none_ HF.out HB2.out
          · have k5 : 3 < kd := by omega
            clear k1 k3
            go_wp2_with (go_at_call 57; refine HFD.out.mono ?_; rintro e wf ⟨rfl, rfl⟩)
            go_ret2
            exact InpEnd.none_ HF.out HB2.out
        by_cases kk : kind = 1
        · subst kk
          have HF : Hid (InpR ts lab kd [] 9) := .inr (.inr ⟨HVL.out, _, HFT.out, .inl ⟨⟨k1, .inr rfl⟩, rfl, rfl⟩⟩)
          clear k1
          rcases k3 with rfl | rfl
          · go_wp2_with (go_at_call 57; refine HFD.out.mono ?_; rintro e wf ⟨rfl, rfl⟩)
            go_ret2
            exact InpEnd.none_ HF.out HB2.out
          · go_wp2_with (go_at_call 57; refine HFD.out.mono ?_; rintro e wf ⟨rfl, rfl⟩)
            go_ret2
            exact InpEnd.none_ HF.out HB2.out
        · obtain rfl : kind = 2 := by omega
          rcases k3 with rfl | rfl
          · have HK2 : Hid (Bk W2 w.heap.size 24 #[.slice (some ⟨b, off, none⟩) n c]) := by rw [← hW2]; exact HG1.out.alloc _
            have g2 := HK2.out.cell 0
            simp at g2
            have HDE := Lib.hid (rdeps_any (some ⟨b, off, none⟩) n c B ts lab (W2) (H0.out.below HB2.out hB) (fun t ht => (HOK.out t ht).below HB2.out hB) (Nat.le_trans hB HB2.out.size) hnc hcm)
            have HDE2 : Hid (∀ q, Calls Tryz.prog 58 #[.agg #[.slice (some ⟨b, off, none⟩) n c], .string lab] (W2.drewN q) (FndEnd ts lab (W2.drewN q))) := fun q =>
              rdeps_any (some ⟨b, off, none⟩) n c B ts lab (W2.drewN q) ((H0.out.below HB2.out hB).drewN q) (fun t ht => (HOK.out t ht).below (below_drewN HB2.out q) hB) (by have := HB2.out.size; simp; omega) hnc hcm
            clear k1 kk HDE HDL hdn20
            go_wp2_with (go_at_call 57; refine HFD.out.mono ?_; rintro e wf ⟨rfl, rfl⟩)
            go_quiet (fail)
            go_wp2_with (go_at_call 58; refine (HDE2.out _).mono ?_; rintro e W4 ⟨aA, an, ac, all, err, rfl, hs4, hn4, hc4, hb4, hf4⟩; refine halt_ ?_)
            refine unhalt ?_
            have HB4 : Hid (Below w.heap.size w W4) := (below_drewN HB2.out _).trans (hb4.mono (below_drewN HB2.out _).size)
            have HDS := Lib.hid hs4
            have HFN : Hid (err = 0 ∧ Asc all ∧ ∀ x, x ∈ all ↔ Rch (nxT ts) lab x) := by
              rcases hf4 with ⟨h, _⟩ | ⟨_, h, _⟩ | ⟨_, _, h1, h2, h3⟩
              · exact absurd HVL.out h
              · rw [HIT.out] at h; cases h
              · exact ⟨h1, h2, h3⟩
            have HDL : Hid (all.length = an) := by have := hs4.1; rw [strs_len] at this; show _ = _; omega
            have H90 : Hid (∀ d ∈ all, d.size ≤ 90) := fun d hd => vld_size HVL.out (rch_isT ((HFN.out.2.2 d).1 hd))
            have hdn20 : an ≤ 100 := by
              have h1 := nodup_len all (ts.map Tg.lab) HFN.out.2.1.nodup (fun x hx => (isT_iff ts x).1 (rch_isT ((HFN.out.2.2 x).1 hx)))
              rw [List.length_map, HTL.out, HDL.out] at h1; omega
            clear hs4 hb4 hf4 HDE2 hW2 y0 y1 y2 y3 g0 g2 x1 x2
            have hcat : ¬ (9223372036854775807 < (⟨#[99, 111, 100, 101, 32]⟩ : ByteArray).size + lab.size) := by show ¬ (_ < 5 + lab.size); omega
            obtain ⟨W5, hW5⟩ : ∃ W5, W4.alloc (.cells #[.string (⟨#[99, 111, 100, 101, 32]⟩ ++ lab)] 9) = W5 := ⟨_, rfl⟩
            have hbs : Bk W5 W4.heap.size 9 #[.string (codeW ++ lab)] := by rw [← hW5]; exact Bk.new W4 _ _
            have zW5 : W5.heap.size = W4.heap.size + 1 := by rw [← hW5]; simp
            have HB5 : Hid (Below w.heap.size w W5) := by rw [← hW5]; exact HB4.out.alloc HB4.out.size _
            have HD5 : Hid (Sl W5 W5.heap.size 1 aA an (strs all)) := by rw [← hW5]; exact (HDS.out.alloc (Nat.le_refl _) _).more (by simp)
            have HS5 : Hid (Sl W5 W5.heap.size 1 (some ⟨W4.heap.size, 0, none⟩) 1 (strs [codeW ++ lab])) := Sl.of_bk hbs rfl
            clear hbs
            go_wp2_with fail
            go_loopw [13, 14] (fun q13 q14 wr => ∃ (k : Nat) (Aq : Option Addr) (cq m : Nat) (l : List ByteArray), k ≤ an ∧ q14 = .int .i64 k ∧ q13 = .slice Aq m cq ∧ m ≤ cq ∧ cq ≤ maxLen ∧ m ≤ k + 1 ∧ Hid (m = l.length) ∧ Hid (Sl wr wr.heap.size 1 Aq m (strs l)) ∧ Hid (Asc l) ∧ Hid (∀ x, x ∈ l ↔ x = codeW ++ lab ∨ ∃ d ∈ all.take k, x = codeW ++ d) ∧ Hid (Below W5.heap.size W5 wr)) (fun _ q14 _ => an - (intOf q14).toNat)
            case atStart => exact ⟨0, _, 1, 1, [codeW ++ lab], Nat.zero_le _, rfl, rfl, Nat.le_refl _, by unfold maxLen; omega, by omega, rfl, HS5.out, List.pairwise_singleton _ _, fun x => by simp, Below.refl _ _⟩
            case round =>
              obtain ⟨k, Aq, cq, m, l, hk, rfl, rfl, hmc, hcm5, hmk, hml, hS, hAs, hMe, hBel⟩ := hrel
              have hwr := hBel.out.size
              by_cases hlt : k < an
              · obtain ⟨db, doff, d, rfl, hdb, hd, y0⟩ := (HD5.out.below hBel.out (Nat.le_refl _)).str_at hlt
                have hlz : (k : Int) < (an : Int) := by omega
                have HTK := Lib.hid (take_snoc hd)
                have hd90 : d.size ≤ 90 := H90.out d (List.mem_of_getElem? hd)
                have hcat2 : ¬ (9223372036854775807 < (⟨#[99, 111, 100, 101, 32]⟩ : ByteArray).size + d.size) := by show ¬ (_ < 5 + d.size); omega
                have HWI : Hid (Calls Tryz.prog 59 #[.slice Aq m cq, .string (⟨#[99, 111, 100, 101, 32]⟩ ++ d)] wr (InsEnd l (codeW ++ d) wr)) := rwith_any Aq m cq wr.heap.size l (codeW ++ d) wr hS.out (Nat.le_refl _) hmc hcm5 (by omega)
                clear hd
                go_wp2_with (go_at_call 59; refine HWI.out.mono ?_; rintro e w6 ⟨A6, c6, rfl, hs6, h61, h62, hb6, _⟩; refine halt_ ?_)
                refine unhalt ?_
                have HS6 := Lib.hid hs6
                have HA6 : Hid (Asc (insS l (codeW ++ d))) := asc_insS _ hAs.out
                have HM6 : Hid (∀ x, x ∈ insS l (codeW ++ d) ↔ x = codeW ++ lab ∨ ∃ e ∈ all.take (k + 1), x = codeW ++ e) := fun x => by
                  rw [mem_insS, hMe.out x, HTK.out]
                  constructor
                  · rintro ((h | ⟨e, he, h⟩) | h)
                    · exact .inl h
                    · exact .inr ⟨e, List.mem_append_left _ he, h⟩
                    · exact .inr ⟨d, by simp, h⟩
                  · rintro (h | ⟨e, he, h⟩)
                    · exact .inl (.inl h)
                    · rcases List.mem_append.1 he with he | he
                      · exact .inl (.inr ⟨e, he, h⟩)
                      · rw [List.mem_singleton.1 he] at h; exact .inr h
                have HB6 : Hid (Below W5.heap.size W5 w6) := hBel.out.trans (hb6.mono hwr)
                have hl6 : (insS l (codeW ++ d)).length ≤ k + 1 + 1 := by have := insS_le l (codeW ++ d); have := hml.out; omega
                obtain ⟨m6, hm6⟩ : ∃ m6, (insS l (codeW ++ d)).length = m6 := ⟨_, rfl⟩
                rw [hm6] at HS6 h61 hl6
                have HL6 := Lib.hid hm6.symm
                rw [hm6]
                clear hs6 hb6 HWI y0 hm6
                go_wp2_with fail
                go_roundw
                case rel => exact ⟨k + 1, A6, c6, m6, _, hlt, by go_num, rfl, h61, h62, by omega, HL6.out, HS6.out, HA6.out, HM6.out, HB6.out⟩
                case measure => simp [intOf]; omega
              · have hlz : ¬ (k : Int) < (an : Int) := by omega
                have HM6 : Hid (∀ x, x ∈ l ↔ x = codeW ++ lab ∨ ∃ e ∈ all, x = codeW ++ e) := fun x => by
                  have h1 := hMe.out x; rwa [List.take_of_length_le (by rw [HDL.out]; omega)] at h1
                have HF : Hid (InpR ts lab 2 l 0) := .inr (.inr ⟨HVL.out, _, HFT.out, .inr ⟨nb2 (show (2 : Int) ≠ 1 by decide), rfl, hAs.out, fun x => (HM6.out x).trans ⟨fun h => .inr (.inl ⟨rfl, by
                  rcases h with h | ⟨e, he, h⟩
                  · exact .inl h
                  · exact .inr ⟨e, (HFN.out.2.2 e).1 he, h⟩⟩), fun h => by
                  rcases h with ⟨h, _⟩ | ⟨_, h⟩ | ⟨h, _⟩
                  · cases h
                  · rcases h with h | ⟨e, he, h⟩
                    · exact .inl h
                    · exact .inr ⟨e, (HFN.out.2.2 e).2 he, h⟩
                  · cases h⟩⟩⟩)
                go_wp2_with fail
                go_ret2
                exact ⟨Aq, m, cq, l, 0, rfl, hS.out, hmc, hcm5, HB5.out.trans (hBel.out.mono HB5.out.size), HF.out⟩
          · have HF : Hid (InpR ts lab 3 [programW ++ lab] 0) := .inr (.inr ⟨HVL.out, _, HFT.out, .inr ⟨nb3 (show (2 : Int) ≠ 1 by decide), rfl, List.pairwise_singleton _ _, fun x => by
              constructor
              · intro h; exact .inr (.inr ⟨rfl, List.mem_singleton.1 h⟩)
              · rintro (⟨h, _⟩ | ⟨h, _⟩ | ⟨_, h⟩)
                · cases h
                · cases h
                · rw [h]; simp⟩⟩)
            have hcat : ¬ (9223372036854775807 < (⟨#[112, 114, 111, 103, 114, 97, 109, 32]⟩ : ByteArray).size + lab.size) := by show ¬ (_ < 8 + lab.size); omega
            have hbs : Bk (W2.alloc (.cells #[.string (⟨#[112, 114, 111, 103, 114, 97, 109, 32]⟩ ++ lab)] 9)) W2.heap.size 9 #[.string (programW ++ lab)] := Bk.new W2 _ _
            have HSP : Hid (Sl (W2.alloc (.cells #[.string (⟨#[112, 114, 111, 103, 114, 97, 109, 32]⟩ ++ lab)] 9)) (W2.alloc (.cells #[.string (⟨#[112, 114, 111, 103, 114, 97, 109, 32]⟩ ++ lab)] 9)).heap.size 1 (some ⟨W2.heap.size, 0, none⟩) 1 (strs [programW ++ lab])) := Sl.of_bk hbs rfl
            clear k1 kk hbs
            go_wp2_with (go_at_call 57; refine HFD.out.mono ?_; rintro e wf ⟨rfl, rfl⟩)
            go_ret2
            exact ⟨_, 1, 1, _, 0, rfl, HSP.out, Nat.le_refl _, by unfold maxLen; omega, HB2.out.alloc HB2.out.size _, HF.out⟩
end Go.Proofs.YtiphbincnnppdaaGreatDoor

namespace Go.Proofs.YtiphbincnnppdaaGreatDoor
open Go.RowKit

/-- what is known of the values of a drawn region, the k-th operation making a box -/
def alPhi (k : Nat) (vals : List Value) (base : Nat) (t : TypeId) (cs : Array Value) (i : Nat) (v : Value) (W : World) : Prop :=
  if i = k then ∃ b0, v = .pointer (some ⟨b0, 0, none⟩) ∧ base ≤ b0 ∧ Bk W b0 t cs else vPhi vals i v W
theorem alPhi_keep {k : Nat} {vals : List Value} {base : Nat} {t : TypeId} {cs : Array Value} (i : Nat) (v : Value) (W W' : World) (h : alPhi k vals base t cs i v W) (hb : Below W.heap.size W W') : alPhi k vals base t cs i v W' := by
  unfold alPhi at h ⊢
  by_cases e : i = k
  · rw [if_pos e] at h ⊢
    obtain ⟨b0, h1, h2, h3⟩ := h
    exact ⟨b0, h1, h2, h3.below hb h3.lt⟩
  · rw [if_neg e] at h ⊢; exact h
/-- what is known of the values of a drawn region, the k-th operation making a slice of one element -/
def asPhi (k : Nat) (vals : List Value) (base : Nat) (t : TypeId) (cs : Array Value) (i : Nat) (v : Value) (W : World) : Prop :=
  if i = k then ∃ b0, v = .slice (some ⟨b0, 0, none⟩) 1 1 ∧ base ≤ b0 ∧ Bk W b0 t cs else vPhi vals i v W
theorem asPhi_keep {k : Nat} {vals : List Value} {base : Nat} {t : TypeId} {cs : Array Value} (i : Nat) (v : Value) (W W' : World) (h : asPhi k vals base t cs i v W) (hb : Below W.heap.size W W') : asPhi k vals base t cs i v W' := by
  unfold asPhi at h ⊢
  by_cases e : i = k
  · rw [if_pos e] at h ⊢
    obtain ⟨b0, h1, h2, h3⟩ := h
    exact ⟨b0, h1, h2, h3.below hb h3.lt⟩
  · rw [if_neg e] at h ⊢; exact h
end Go.Proofs.YtiphbincnnppdaaGreatDoor

namespace Go.Proofs.YtiphbincnnppdaaGreatDoor
open Go.RowKit Go.Maps

theorem lookF_none_step {fs : List Fl} {j : Nat} {f : Fl} {s : ByteArray} (h : lookF (fs.take j) s = none) (hf : fs[j]? = some f) (hne : f.1 ≠ s) : lookF (fs.take (j + 1)) s = none := by
  rw [take_snoc hf, lookF_snoc, h]; simp [hne]
theorem lookF_here : ∀ {fs : List Fl} {j : Nat} {f : Fl} {s : ByteArray}, lookF (fs.take j) s = none → fs[j]? = some f → f.1 = s → lookF fs s = some f.2
  | [], _, _, _, _, h, _ => by simp at h
  | r :: fs, 0, f, s, _, h, e => by simp at h; subst h; simp [lookF, e]
  | r :: fs, j + 1, f, s, h0, h, e => by
    simp only [List.take_succ_cons, lookF] at h0 ⊢
    by_cases er : r.1 = s
    · rw [if_pos er] at h0; cases h0
    · rw [if_neg er] at h0 ⊢
      exact lookF_here h0 (by simpa using h) e

set_option maxRecDepth 100000 in
set_option maxHeartbeats 16000000 in
theorem rmake_any (A : Option Addr) (n c B : Nat) (ts : List Tg) (lab : ByteArray) (kd : Int) (fA : Option Addr) (fn fc : Nat) (fs : List Fl) (w : World) (h0 : Sl w B 4 A n (flat tgC ts)) (hok : ∀ t ∈ ts, TgOk w B t) (hB : B ≤ w.heap.size) (hnc : n ≤ c) (hcm : c ≤ maxLen)
    (hf : Sl w B 2 fA fn (flat flC fs)) (hfn : fn ≤ 1000) (hfs : ∀ f ∈ fs, f.1.size ≤ maxLen ∧ f.2.size ≤ maxLen) :
    Calls Tryz.prog 11 #[.agg #[.slice A n c], .string lab, .int .i64 kd, .slice fA fn fc] w (MkEnd ts lab kd fs w) := by
  have HFL := Lib.hid (hf.len flC_len (by omega))
  have H0 := Lib.hid h0; have HOK := Lib.hid hok; have HF := Lib.hid hf; have HFS := Lib.hid hfs
  clear h0 hok hf hfs
  obtain ⟨W0, hW0⟩ : ∃ W0, (w.alloc (.cells #[.slice A n c] 24)).alloc (.cells #[.int .i64 0, .string ⟨#[]⟩, .slice none 0 0, .slice none 0 0] 33) = W0 := ⟨_, rfl⟩
  have HB0 : Hid (Below w.heap.size w W0) := by rw [← hW0]; exact ((Below.refl _ w).alloc (Nat.le_refl _) _).alloc (by simp) _
  have zW0 : W0.heap.size = w.heap.size + 2 := by rw [← hW0]; simp
  have HG : Hid (Bk W0 w.heap.size 24 #[.slice A n c]) := by rw [← hW0]; exact (Bk.new w _ _).alloc _
  have HT : Hid (Bk W0 (w.heap.size + 1) 33 #[.int .i64 0, .string ⟨#[]⟩, .slice none 0 0, .slice none 0 0]) := by
    rw [← hW0]
    have := Bk.new (w.alloc (.cells #[.slice A n c] 24)) 33 #[.int .i64 0, .string ⟨#[]⟩, .slice none 0 0, .slice none 0 0]
    rw [World.size_alloc] at this
    exact this
  have g0 := HG.out.cell 0
  simp at g0
  have HIN := Lib.hid (rinputs_any A n c B ts lab kd W0 (H0.out.below HB0.out hB) (fun t ht => (HOK.out t ht).below HB0.out hB) (by omega) hnc hcm)
  go_enter Tryz.func11, Tryz.ntmps11
  go_wp2_with fail
  refine HIN.out.mono ?_
  rintro e wm ⟨nA, nn, nc, l, er, rfl, hs1, hn1, hc1, hb1, hr1⟩
  have HB1 : Hid (Below w.heap.size w wm) := HB0.out.trans (hb1.mono (by omega))
  have hz1 := hb1.size
  have HT1 := Lib.hid (HT.out.below hb1 (by omega))
  have HS1 := Lib.hid hs1; have HR1 := Lib.hid hr1
  have HNL : Hid (l.length = nn) := by have := hs1.1; rw [strs_len] at this; show _ = _; omega
  have hnn : nn ≤ 9223372036854775807 := by unfold maxLen at hc1; omega
  clear hs1 hr1 hb1 g0 HIN hW0 HG HT HB0
  by_cases her : er = 0
  case neg =>
    have p1 : (er != 0) = true := by rw [bne_iff_ne]; exact her
    have HM : Hid (MkR ts lab kd fs [] er) := ⟨l, er, HR1.out, .inl ⟨her, rfl, rfl⟩⟩
    have HER := Lib.hid her
    have f0 := HT1.out.free 0; have f1 := HT1.out.free 1; have f2 := HT1.out.free 2; have f3 := HT1.out.free 3
    have c0 := HT1.out.cell 0; have c1 := HT1.out.cell 1; have c2 := HT1.out.cell 2; have c3 := HT1.out.cell 3
    simp at c0 c1 c2 c3
    clear her
    go_wp2_with fail
    exact bodyPost_ret (res_cellMk Tryz.results11 rfl (HT1.out.set4 _ _ _ _) rfl) rfl (MkEnd.none_ HM.out HER.out (below_set4 HB1.out (by omega) _ _ _ _))
  subst her
  have HL100 : Hid (l.length ≤ 101) := (inp_small HR1.out).1
  obtain ⟨W5, hW5⟩ : ∃ W5, wm.alloc (.cells #[.int .i64 kd, .string lab, .slice none 0 0, .slice none 0 0] 33) = W5 := ⟨_, rfl⟩
  have HY5 : Hid (Bk W5 wm.heap.size 33 #[.int .i64 kd, .string lab, .slice none 0 0, .slice none 0 0]) := by rw [← hW5]; exact Bk.new wm _ _
  have HB5 : Hid (Below wm.heap.size wm W5) := by rw [← hW5]; exact (Below.refl _ wm).alloc (Nat.le_refl _) _
  have zW5 : W5.heap.size = wm.heap.size + 1 := by rw [← hW5]; simp
  obtain ⟨i0, hi, hzi0, hzi1, hzi2⟩ := info_parts infoIpt
  have Hi := Lib.hid hi; have Hz0 := Lib.hid hzi0; have Hz1 := Lib.hid hzi1; have Hz2 := Lib.hid hzi2
  clear hi hzi0 hzi1 hzi2
  obtain ⟨i1, hj, hzj0, hzj1, hzj2⟩ := info_parts infoFil
  have Hj := Lib.hid hj; have Hy0 := Lib.hid hzj0; have Hy1 := Lib.hid hzj1; have Hy2 := Lib.hid hzj2
  clear hj hzj0 hzj1 hzj2
  have HW5 := Lib.hid hW5
  clear hW5
  go_wp2_with fail
  rw [HW5.out]
  go_loopw [13] (fun q wr => ∃ (k : Nat) (A1 : Option Addr) (c1 : Nat) (A2 : Option Addr) (c2 : Nat) (acc : List Fl), k ≤ nn ∧ q = .int .i64 k ∧ k ≤ c1 ∧ c1 ≤ maxLen ∧ k ≤ c2 ∧ c2 ≤ maxLen ∧ Hid (Bk wr wm.heap.size 33 #[.int .i64 kd, .string lab, .slice A1 k c1, .slice A2 k c2]) ∧
    Hid (Apd wr (wm.heap.size + 1) 69 3 A1 k c1 (flat ipC (acc.map ipF))) ∧ Hid (Apd wr (wm.heap.size + 1) 62 2 A2 k c2 (flat flC acc)) ∧ Hid (mkG fs [] l = mkG fs acc (l.drop k)) ∧ Hid (Below wm.heap.size wm wr) ∧ wm.heap.size + 1 ≤ wr.heap.size) (fun q _ => nn - (intOf q).toNat)
  case atStart => exact ⟨0, none, 0, none, 0, [], Nat.zero_le _, rfl, Nat.le_refl _, Nat.zero_le _, Nat.le_refl _, Nat.zero_le _, HY5.out, .inr ⟨rfl, rfl, rfl⟩, .inr ⟨rfl, rfl, rfl⟩, rfl, HB5.out, by omega⟩
  case round =>
    obtain ⟨k, A1, c1, A2, c2, acc, hk2, rfl, hk1, hkm, hk3, hkm2, hY, hA1, hA2, hG, hBl, hwz2⟩ := hrel
    have HBb : Hid (Below w.heap.size w wr) := HB1.out.trans (hBl.out.mono (by omega))
    have HTr := Lib.hid (HT1.out.below hBl.out (by omega))
    obtain ⟨wo, hwo⟩ : ∃ wo, wo = wr := ⟨_, rfl⟩
    subst hwo
    by_cases hlt2 : k < nn
    · obtain ⟨b, off, s, rfl, hbB, hx, y0⟩ := (HS1.out.below hBl.out (Nat.le_refl _)).str_at hlt2
      have hkz : (k : Int) < (nn : Int) := by omega
      have HDR := Lib.hid (drop_at hx)
      have HY0 := Lib.hid y0
      have hk101 : k ≤ 101 := by have := HL100.out; have := HNL.out; omega
      clear hx y0
      go_wp2_with fail
      go_loopw [14] (fun q wr => ∃ j : Nat, j ≤ fn ∧ q = .int .i64 j ∧ Hid (lookF (fs.take j) s = none) ∧ Hid (Below wo.heap.size wo wr)) (fun q _ => fn - (intOf q).toNat)
      case atStart => exact ⟨0, Nat.zero_le _, rfl, rfl, Below.refl _ _⟩
      case round =>
        obtain ⟨j, hj, rfl, hL, hBi⟩ := hrel
        have hzi := hBi.out.size
        have HBw : Hid (Below w.heap.size w wr) := HBb.out.trans (hBi.out.mono HBb.out.size)
        have HTi := Lib.hid (HTr.out.below hBi.out (by omega))
        have HYi := Lib.hid (hY.out.below hBi.out (by omega))
        have y0 := (hBi.out.cell (p := ⟨b, off + k, none⟩) (by show b < _; omega)).trans HY0.out
        by_cases hjn : j < fn
        · obtain ⟨fb, fo, f, rfl, hfb, hfj, z0, z1⟩ := (HF.out.below HBw.out hB).fl hjn
          have hjz : (j : Int) < (fn : Int) := by omega
          have hse := str_dec f.1 s
          have HFJ := Lib.hid hfj
          clear hfj
          by_cases heq : f.1 = s
          · rw [decide_eq_true heq] at hse
            have hsn : (f.1.toList != s.toList) = false := by rw [bne, hse]; rfl
            have HLS : Hid (lookF fs s = some f.2) := lookF_here hL.out HFJ.out heq
            have hd63 := (HFS.out f (List.mem_of_getElem? HFJ.out)).2
            have hd63' : f.2.size ≤ 9223372036854775807 := by unfold maxLen at hd63; exact hd63
            have HDS := Lib.hid hd63
            have hjne : ((j : Int) == (fn : Int)) = false := by rw [beq_eq_false_iff_ne]; omega
            obtain ⟨d, hd⟩ : ∃ d, f.2 = d := ⟨_, rfl⟩
            rw [hd] at z1 HLS HDS hd63'
            have HFD : Hid (f = (s, d)) := Prod.ext heq hd
            clear heq hd63 hd
            go_wp2_with fail
            go_quiet (fail)
            have y1 := y0; have z2 := z1
            by_cases hdl : 65536 < d.size
            · have hdz : (65536 : Int) < (d.size : Int) := by omega
              have HM : Hid (MkR ts lab kd fs [] 4) := ⟨l, 0, HR1.out, .inr ⟨rfl, by rw [hG.out, HDR.out, mkG_long HLS.out hdl]⟩⟩
              have f0 := HTi.out.free 0; have f1 := HTi.out.free 1; have f2 := HTi.out.free 2; have f3 := HTi.out.free 3
              have d0 := HTi.out.cell 0; have d1 := HTi.out.cell 1; have d2 := HTi.out.cell 2; have d3 := HTi.out.cell 3
              simp at d0 d1 d2 d3
              clear hdl
              go_wp2_with fail
              exact bodyPost_ret (res_cellMk Tryz.results11 rfl ((HTi.out.drewN nq).set4 _ _ _ _) rfl) rfl (MkEnd.none_ HM.out (by decide) (below_set4 (below_drewN HBw.out nq) (by omega) _ _ _ _))
            · have hdz : ¬ (65536 : Int) < (d.size : Int) := by omega
              obtain ⟨wq, hwq⟩ : ∃ wq, wr.drewN nq = wq := ⟨_, rfl⟩
              have HYq : Hid (Bk wq wm.heap.size 33 #[.int .i64 kd, .string lab, .slice A1 k c1, .slice A2 k c2]) := by rw [← hwq]; exact HYi.out.drewN nq
              have HBq : Hid (Below wo.heap.size wo wq) := by rw [← hwq]; exact below_drewN hBi.out nq
              have hzq := HBq.out.size
              have HAq1 := Lib.hid (hA1.out.below HBq.out); have HAq2 := Lib.hid (hA2.out.below HBq.out)
              have HBmq : Hid (Below wm.heap.size wm wq) := hBl.out.trans (HBq.out.mono (by omega))
              have yq : wq.cell? ⟨b, off + k, none⟩ = some (.string s) := by rw [← hwq]; exact y0
              have zq1 : wq.cell? ⟨fb, fo + j * 2 + 1, none⟩ = some (.string d) := by rw [← hwq]; exact z1
              have zq0 : wq.cell? ⟨fb, fo + j * 2, none⟩ = some (.string s) := by
                rw [← hwq]
                have h1 : f.1 = s := congrArg Prod.fst HFD.out
                rw [← h1]; exact z0
              rw [hwq]
              have HG2 : Hid (mkG fs [] l = mkG fs (acc ++ [(s, d)]) (l.drop (k + 1))) := by show _ = _; rw [hG.out, HDR.out, mkG_next HLS.out hdl]
              have x2 := HYq.out.cell 2; simp at x2
              obtain ⟨q1, q2, hq⟩ : ∃ q1 q2, ofB (toL d) = (q1, q2) := ⟨_, _, rfl⟩
              have HIP : Hid (flat ipC ((acc ++ [(s, d)]).map ipF) = flat ipC (acc.map ipF) ++ flat ipC [(s, (q1, q2))]) := by
                show _ = _
                rw [List.map_append, flat_append]; simp [ipF, hq]
              have HOF2 : Hid (∀ W e w', OfEnd d W e w' → e = .returned (.agg #[.int .u64 q1, .int .u64 q2]) ∧ Below W.heap.size W w') := fun W e w' h => by
                unfold OfEnd at h; rw [hq] at h; exact h
              have HYQ := Lib.hid yq; have HZ1 := Lib.hid zq1; have HZ0 := Lib.hid zq0
              have hfbw : fb < wq.heap.size := by have := HBw.out.size; omega
              have hbw : b < wq.heap.size := by omega
              clear hdl hq hwq z0 z1 y0 y1 z2 hse hsn
              obtain ⟨fb', fo', f', hfe, hfb', hfj', m0, m1⟩ := (HF.out.below HB1.out hB).fl hjn
              cases hfe
              rw [HFJ.out] at hfj'
              cases hfj'
              rw [HFD.out] at m0 m1
              have HM0 := Lib.hid m0; have HM1 := Lib.hid m1
              have hfm : fb < wm.heap.size := by have := HB1.out.size; omega
              have HX2 := Lib.hid x2
              clear m0 m1 x2 yq zq0
              go_wp2_with fail
              refine wp_region_stableGD 15 (67 :: 68 :: 69 :: 70 :: 71 :: 72 :: 73 :: 74 :: 75 :: 76 :: 77 :: 78 :: 79 :: 80 :: 81 :: []) (by kernel_rfl) (by kernel_rfl) (by kernel_rfl) (fun W => Below wq.heap.size wq W) (fun W W' => Below W.heap.size W W')
                (asPhi 14 ((.pointer (some ⟨wm.heap.size, 0, none⟩)) :: (.pointer (some ⟨wm.heap.size, 2, none⟩)) :: (.slice A1 k c1) :: (.slice (some ⟨b, off, none⟩) nn nc) :: (.int .i64 (k : Int)) :: (.pointer (some ⟨b, off + k, none⟩)) :: (.string s) :: (.slice (some ⟨fb, fo, none⟩) fn fc) :: (.int .i64 (j : Int)) :: (.pointer (some ⟨fb, fo + j * 2, none⟩)) :: (.pointer (some ⟨fb, fo + j * 2 + 1, none⟩)) :: (.string d) :: (.agg #[.int .u64 q1, .int .u64 q2]) :: (.agg #[.string s, .int .u64 q1, .int .u64 q2]) :: (undef) :: []) wq.heap.size 69 #[.string s, .int .u64 q1, .int .u64 q2]) (fun W W' h1 h2 => h1.trans (h2.mono h1.size)) (fun i v W W' h hb => asPhi_keep i v W W' h hb) (Below.refl _ _).drew ?stepA ?tailA
              case stepA =>
                intro i o vs W hi ho hv hR hphi
                obtain ⟨v0, v1, v2, v3, v4, v5, v6, v7, v8, v9, v10, v11, v12, v13, v14, rfl⟩ := ls15 hv
                simp only [List.zip, List.zipWith, putAll, Act.put, List.setIfInBounds_toArray, List.set]
                have hWz := hR.size
                have l2 := (hR.cell (p := ⟨wm.heap.size, 2, none⟩) (by show wm.heap.size < _; omega)).trans HX2.out
                have ly := (hR.cell (p := ⟨b, off + k, none⟩) (by show b < _; omega)).trans HYQ.out
                have lz := (hR.cell (p := ⟨fb, fo + j * 2 + 1, none⟩) (by show fb < _; omega)).trans HZ1.out
                match i, hi, ho with
                | 0, _, rfl =>
                  exact .inl ⟨rfl, gives_value (v := .pointer (some ⟨wm.heap.size, 0, none⟩)) (w' := W) (by go_simp) ⟨Below.refl _ _, fun u hu => by cases hu; rfl⟩⟩
                | 1, _, rfl =>
                  have e0 : v0 = _ := hphi ⟨0, .data⟩ (by simp) rfl v0 rfl _ rfl
                  subst e0
                  exact .inl ⟨rfl, gives_value (v := .pointer (some ⟨wm.heap.size, 2, none⟩)) (w' := W) (by go_simp) ⟨Below.refl _ _, fun u hu => by cases hu; rfl⟩⟩
                | 2, _, rfl =>
                  have e1 : v1 = _ := hphi ⟨1, .data⟩ (by simp) rfl v1 rfl _ rfl
                  subst e1
                  exact .inl ⟨rfl, gives_value (v := .slice A1 k c1) (w' := W) (by go_simp) ⟨Below.refl _ _, fun u hu => by cases hu; rfl⟩⟩
                | 3, _, rfl =>
                  exact .inl ⟨rfl, gives_value (v := .slice (some ⟨b, off, none⟩) nn nc) (w' := W) (by go_simp) ⟨Below.refl _ _, fun u hu => by cases hu; rfl⟩⟩
                | 4, _, rfl =>
                  exact .inl ⟨rfl, gives_value (v := .int .i64 (k : Int)) (w' := W) (by go_simp) ⟨Below.refl _ _, fun u hu => by cases hu; rfl⟩⟩
                | 5, _, rfl =>
                  have e3 : v3 = _ := hphi ⟨3, .data⟩ (by simp) rfl v3 rfl _ rfl
                  have e4 : v4 = _ := hphi ⟨4, .data⟩ (by simp) rfl v4 rfl _ rfl
                  subst e3 e4
                  exact .inl ⟨rfl, gives_value (v := .pointer (some ⟨b, off + k, none⟩)) (w' := W) (by go_simp) ⟨Below.refl _ _, fun u hu => by cases hu; rfl⟩⟩
                | 6, _, rfl =>
                  have e5 : v5 = _ := hphi ⟨5, .data⟩ (by simp) rfl v5 rfl _ rfl
                  subst e5
                  exact .inl ⟨rfl, gives_value (v := .string s) (w' := W) (by go_simp) ⟨Below.refl _ _, fun u hu => by cases hu; rfl⟩⟩
                | 7, _, rfl =>
                  exact .inl ⟨rfl, gives_value (v := .slice (some ⟨fb, fo, none⟩) fn fc) (w' := W) (by go_simp) ⟨Below.refl _ _, fun u hu => by cases hu; rfl⟩⟩
                | 8, _, rfl =>
                  exact .inl ⟨rfl, gives_value (v := .int .i64 (j : Int)) (w' := W) (by go_simp) ⟨Below.refl _ _, fun u hu => by cases hu; rfl⟩⟩
                | 9, _, rfl =>
                  have e7 : v7 = _ := hphi ⟨7, .data⟩ (by simp) rfl v7 rfl _ rfl
                  have e8 : v8 = _ := hphi ⟨8, .data⟩ (by simp) rfl v8 rfl _ rfl
                  subst e7 e8
                  exact .inl ⟨rfl, gives_value (v := .pointer (some ⟨fb, fo + j * 2, none⟩)) (w' := W) (by go_simp) ⟨Below.refl _ _, fun u hu => by cases hu; rfl⟩⟩
                | 10, _, rfl =>
                  have e9 : v9 = _ := hphi ⟨9, .data⟩ (by simp) rfl v9 rfl _ rfl
                  subst e9
                  exact .inl ⟨rfl, gives_value (v := .pointer (some ⟨fb, fo + j * 2 + 1, none⟩)) (w' := W) (by go_simp) ⟨Below.refl _ _, fun u hu => by cases hu; rfl⟩⟩
                | 11, _, rfl =>
                  have e10 : v10 = _ := hphi ⟨10, .data⟩ (by simp) rfl v10 rfl _ rfl
                  subst e10
                  exact .inl ⟨rfl, gives_value (v := .string d) (w' := W) (by go_simp) ⟨Below.refl _ _, fun u hu => by cases hu; rfl⟩⟩
                | 12, _, rfl =>
                  have e11 : v11 = _ := hphi ⟨11, .data⟩ (by simp) rfl v11 rfl _ rfl
                  subst e11
                  refine .inl ⟨rfl, gives_call (f := 30) (args := #[.string d]) (by go_simp) ((rof_any d W HDS.out).mono ?_)⟩
                  rintro e W' hoe
                  obtain ⟨rfl, hb'⟩ := HOF2.out W _ _ hoe
                  exact ⟨_, rfl, hb', fun u hu => by cases hu; rfl⟩
                | 13, _, rfl =>
                  have e6 : v6 = _ := hphi ⟨6, .data⟩ (by simp) rfl v6 rfl _ rfl
                  have e12 : v12 = _ := hphi ⟨12, .data⟩ (by simp) rfl v12 rfl _ rfl
                  subst e6 e12
                  exact .inl ⟨rfl, gives_value (v := .agg #[.string s, .int .u64 q1, .int .u64 q2]) (w' := W) (by go_simp) ⟨Below.refl _ _, fun u hu => by cases hu; rfl⟩⟩
                | 14, _, rfl =>
                  have e13 : v13 = _ := hphi ⟨13, .data⟩ (by simp) rfl v13 rfl _ rfl
                  subst e13
                  exact .inl ⟨rfl, gives_value (v := .slice (some ⟨W.heap.size, 0, none⟩) 1 1) (w' := W.alloc (.cells #[.string s, .int .u64 q1, .int .u64 q2] 69)) (by go_simp) ⟨(Below.refl _ W).alloc (Nat.le_refl _) _, W.heap.size, rfl, hR.size, Bk.new W _ _⟩⟩
                | i + 15, hi, _ => exact absurd hi (by omega)
              case tailA =>
                intro vs W hv hR hphi
                obtain ⟨v0, v1, v2, v3, v4, v5, v6, v7, v8, v9, v10, v11, v12, v13, v14, rfl⟩ := ls15 hv
                simp only [List.zip, List.zipWith, putAll, Act.put, List.setIfInBounds_toArray, List.set, List.drop]
                have e0 : v0 = _ := hphi 0 v0 rfl _ rfl
                have e1 : v1 = _ := hphi 1 v1 rfl _ rfl
                have e2 : v2 = _ := hphi 2 v2 rfl _ rfl
                have e3 : v3 = _ := hphi 3 v3 rfl _ rfl
                have e4 : v4 = _ := hphi 4 v4 rfl _ rfl
                have e5 : v5 = _ := hphi 5 v5 rfl _ rfl
                have e6 : v6 = _ := hphi 6 v6 rfl _ rfl
                have e7 : v7 = _ := hphi 7 v7 rfl _ rfl
                have e8 : v8 = _ := hphi 8 v8 rfl _ rfl
                have e9 : v9 = _ := hphi 9 v9 rfl _ rfl
                have e10 : v10 = _ := hphi 10 v10 rfl _ rfl
                have e11 : v11 = _ := hphi 11 v11 rfl _ rfl
                have e12 : v12 = _ := hphi 12 v12 rfl _ rfl
                have e13 : v13 = _ := hphi 13 v13 rfl _ rfl
                obtain ⟨ab, ea, hab, hak⟩ : ∃ b0, v14 = .slice (some ⟨b0, 0, none⟩) 1 1 ∧ wq.heap.size ≤ b0 ∧ Bk W b0 69 #[.string s, .int .u64 q1, .int .u64 q2] := hphi 14 v14 rfl
                subst e0 e1 e2 e3 e4 e5 e6 e7 e8 e9 e10 e11 e12 e13 ea
                clear hphi hv
                have QB : Hid (Below wm.heap.size wm W) := HBmq.out.trans (hR.mono (by have := HBmq.out.size; omega))
                have Q1 := Lib.hid (HYq.out.below hR (by omega))
                have QA1 := Lib.hid (HAq1.out.below hR); have QA2 := Lib.hid (HAq2.out.below hR)
                have hzW := hR.size
                have HAK := Lib.hid hak
                clear hR hak
                go_wp2_with (at_builtin; refine halt_ ?_)
                refine unhalt ?_
                refine wpList_append_apd (base := wm.heap.size + 1) (size := 3) _ rfl (.tmp 69) (.tmp 81) 29 rfl 69 i0 _ 32 Tryz.underlying29 Hi.out Hz0.out Hz1.out Hz2.out rfl (by decide) A1 k c1 (flat ipC (acc.map ipF)) rfl QA1.out W.heap.size _ 1 _ (flat ipC [(s, (q1, q2))]) rfl (Sl.of_bk HAK.out rfl) (oneCells_ip _ _) ?m1_1 ?m2_1 ?m3_1 ?_
                case m1_1 => unfold maxLen; omega
                case m2_1 => omega
                case m3_1 => omega
                intro A5 c5 w12 a12 hb12 hn12 hm12 hok12
                have R1 := Lib.hid (Q1.out.below hb12 (by omega))
                have RA2 : Hid (Apd w12 (wm.heap.size + 1) 62 2 A2 k c2 (flat flC acc)) := QA2.out.others hok12 (by decide)
                have RB : Hid (Below wm.heap.size wm w12) := QB.out.trans (hb12.mono (by omega))
                have hz12 := hb12.size
                have r2 := R1.out.cell 2; simp at r2
                have f2 := R1.out.free 2
                obtain ⟨W13, hW13⟩ : ∃ W13, w12.setCell ⟨wm.heap.size, 2, none⟩ (.slice A5 (k + 1) c5) = W13 := ⟨_, rfl⟩
                have S1 : Hid (Bk W13 wm.heap.size 33 #[.int .i64 kd, .string lab, .slice A5 (k + 1) c5, .slice A2 k c2]) := by
                  rw [← hW13]; have := R1.out.set 2 (.slice A5 (k + 1) c5); show Bk _ _ _ _; simpa using this
                have SA1 : Hid (Apd W13 (wm.heap.size + 1) 69 3 A5 (k + 1) c5 (flat ipC ((acc ++ [(s, d)]).map ipF))) := by
                  show Apd _ _ _ _ _ _ _ _; rw [HIP.out, ← hW13]; exact Apd.setCell a12 (by simp) _
                have SA2 : Hid (Apd W13 (wm.heap.size + 1) 62 2 A2 k c2 (flat flC acc)) := by rw [← hW13]; exact RA2.out.setCell (by simp) _
                have SB : Hid (Below wm.heap.size wm W13) := by rw [← hW13]; exact RB.out.setCell (p := ⟨wm.heap.size, 2, none⟩) (Nat.le_refl _) _
                have hz13 : wm.heap.size + 1 ≤ W13.heap.size := by rw [← hW13, set_size']; omega
                have t3 := S1.out.cell 3; simp at t3
                have HT3 := Lib.hid t3
                have HN0 := Lib.hid ((SB.out.cell (p := ⟨fb, fo + j * 2, none⟩) (by show fb < _; omega)).trans HM0.out)
                have HN1 := Lib.hid ((SB.out.cell (p := ⟨fb, fo + j * 2 + 1, none⟩) (by show fb < _; omega)).trans HM1.out)
                have hfl : ∀ q : List Fl, flat flC (q ++ [(s, d)]) = flat flC q ++ flat flC [(s, d)] := fun q => flat_append _ _
                have HFLA := Lib.hid (hfl acc)
                have hfb13 : fb < W13.heap.size := by omega
                clear a12 hb12 hok12 hfl t3 Q1 QA1 QA2 QB
                go_wp2_with fail
                clear hW13 r2 f2 R1 RA2 RB
                refine wp_region_stableGD 7 (85 :: 86 :: 87 :: 88 :: 89 :: 90 :: 91 :: []) (by kernel_rfl) (by kernel_rfl) (by kernel_rfl) (fun W => Below W13.heap.size W13 W) (fun W W' => Below W.heap.size W W')
                  (asPhi 6 ((.pointer (some ⟨wm.heap.size, 3, none⟩)) :: (.slice A2 k c2) :: (.slice (some ⟨fb, fo, none⟩) fn fc) :: (.int .i64 (j : Int)) :: (.pointer (some ⟨fb, fo + j * 2, none⟩)) :: (.agg #[.string s, .string d]) :: (undef) :: []) W13.heap.size 62 #[.string s, .string d]) (fun W W' h1 h2 => h1.trans (h2.mono h1.size)) (fun i v W W' h hb => asPhi_keep i v W W' h hb) (Below.refl _ _).drew ?stepB ?tailB
                case stepB =>
                  intro i o vs W hi ho hv hR hphi
                  obtain ⟨v0, v1, v2, v3, v4, v5, v6, rfl⟩ := ls7 hv
                  simp only [List.zip, List.zipWith, putAll, Act.put, List.setIfInBounds_toArray, List.set]
                  have hWz := hR.size
                  have l3 := (hR.cell (p := ⟨wm.heap.size, 3, none⟩) (by show wm.heap.size < _; omega)).trans HT3.out
                  have n0 := (hR.cell (p := ⟨fb, fo + j * 2, none⟩) (by show fb < _; omega)).trans HN0.out
                  have n1 := (hR.cell (p := ⟨fb, fo + j * 2 + 1, none⟩) (by show fb < _; omega)).trans HN1.out
                  match i, hi, ho with
                  | 0, _, rfl =>
                    exact .inl ⟨rfl, gives_value (v := .pointer (some ⟨wm.heap.size, 3, none⟩)) (w' := W) (by go_simp) ⟨Below.refl _ _, fun u hu => by cases hu; rfl⟩⟩
                  | 1, _, rfl =>
                    have e0 : v0 = _ := hphi ⟨0, .data⟩ (by simp) rfl v0 rfl _ rfl
                    subst e0
                    exact .inl ⟨rfl, gives_value (v := .slice A2 k c2) (w' := W) (by go_simp) ⟨Below.refl _ _, fun u hu => by cases hu; rfl⟩⟩
                  | 2, _, rfl =>
                    exact .inl ⟨rfl, gives_value (v := .slice (some ⟨fb, fo, none⟩) fn fc) (w' := W) (by go_simp) ⟨Below.refl _ _, fun u hu => by cases hu; rfl⟩⟩
                  | 3, _, rfl =>
                    exact .inl ⟨rfl, gives_value (v := .int .i64 (j : Int)) (w' := W) (by go_simp) ⟨Below.refl _ _, fun u hu => by cases hu; rfl⟩⟩
                  | 4, _, rfl =>
                    have e2 : v2 = _ := hphi ⟨2, .data⟩ (by simp) rfl v2 rfl _ rfl
                    have e3 : v3 = _ := hphi ⟨3, .data⟩ (by simp) rfl v3 rfl _ rfl
                    subst e2 e3
                    exact .inl ⟨rfl, gives_value (v := .pointer (some ⟨fb, fo + j * 2, none⟩)) (w' := W) (by go_simp) ⟨Below.refl _ _, fun u hu => by cases hu; rfl⟩⟩
                  | 5, _, rfl =>
                    have e4 : v4 = _ := hphi ⟨4, .data⟩ (by simp) rfl v4 rfl _ rfl
                    subst e4
                    exact .inl ⟨rfl, gives_value (v := .agg #[.string s, .string d]) (w' := W) (by go_simp) ⟨Below.refl _ _, fun u hu => by cases hu; rfl⟩⟩
                  | 6, _, rfl =>
                    have e5 : v5 = _ := hphi ⟨5, .data⟩ (by simp) rfl v5 rfl _ rfl
                    subst e5
                    exact .inl ⟨rfl, gives_value (v := .slice (some ⟨W.heap.size, 0, none⟩) 1 1) (w' := W.alloc (.cells #[.string s, .string d] 62)) (by go_simp) ⟨(Below.refl _ W).alloc (Nat.le_refl _) _, W.heap.size, rfl, hR.size, Bk.new W _ _⟩⟩
                  | i + 7, hi, _ => exact absurd hi (by omega)
                case tailB =>
                  intro vs W hv hR hphi
                  obtain ⟨v0, v1, v2, v3, v4, v5, v6, rfl⟩ := ls7 hv
                  simp only [List.zip, List.zipWith, putAll, Act.put, List.setIfInBounds_toArray, List.set, List.drop]
                  have e0 : v0 = _ := hphi 0 v0 rfl _ rfl
                  have e1 : v1 = _ := hphi 1 v1 rfl _ rfl
                  have e2 : v2 = _ := hphi 2 v2 rfl _ rfl
                  have e3 : v3 = _ := hphi 3 v3 rfl _ rfl
                  have e4 : v4 = _ := hphi 4 v4 rfl _ rfl
                  have e5 : v5 = _ := hphi 5 v5 rfl _ rfl
                  obtain ⟨ab, ea, hab, hak⟩ : ∃ b0, v6 = .slice (some ⟨b0, 0, none⟩) 1 1 ∧ W13.heap.size ≤ b0 ∧ Bk W b0 62 #[.string s, .string d] := hphi 6 v6 rfl
                  subst e0 e1 e2 e3 e4 e5 ea
                  clear hphi hv
                  have U1 := Lib.hid (S1.out.below hR (by omega))
                  have UA1 := Lib.hid (SA1.out.below hR); have UA2 := Lib.hid (SA2.out.below hR)
                  have UB : Hid (Below wm.heap.size wm W) := SB.out.trans (hR.mono (by omega))
                  have hzU := hR.size
                  have HAK2 := Lib.hid hak
                  clear hR hak
                  go_wp2_with (at_builtin; refine halt_ ?_)
                  refine unhalt ?_
                  refine wpList_append_apd (base := wm.heap.size + 1) (size := 2) _ rfl (.tmp 86) (.tmp 91) 25 rfl 62 i1 _ 32 Tryz.underlying25 Hj.out Hy0.out Hy1.out Hy2.out rfl (by decide) A2 k c2 (flat flC acc) rfl UA2.out W.heap.size _ 1 _ (flat flC [(s, d)]) rfl (Sl.of_bk HAK2.out rfl) (oneCells_fi s d) ?m1_2 ?m2_2 ?m3_2 ?_
                  case m1_2 => unfold maxLen; omega
                  case m2_2 => omega
                  case m3_2 => omega
                  intro A6 c6 w14 ho14 hb14 hn14 hm14 hok14
                  have V1 := Lib.hid (U1.out.below hb14 (by omega))
                  have VA1 : Hid (Apd w14 (wm.heap.size + 1) 69 3 A5 (k + 1) c5 (flat ipC ((acc ++ [(s, d)]).map ipF))) := UA1.out.others hok14 (by decide)
                  have VA2 : Hid (Apd w14 (wm.heap.size + 1) 62 2 A6 (k + 1) c6 (flat flC (acc ++ [(s, d)]))) := by show Apd _ _ _ _ _ _ _ _; rw [HFLA.out]; exact ho14
                  have VB : Hid (Below wm.heap.size wm w14) := UB.out.trans (hb14.mono (by omega))
                  have hz14 := hb14.size
                  have t4 := V1.out.cell 3; simp at t4
                  have f4 := V1.out.free 3
                  clear ho14 hb14 hok14
                  go_wp2_with fail
                  go_roundw
                  case rel =>
                    refine ⟨k + 1, A5, c5, A6, c6, acc ++ [(s, d)], hlt2, by go_num, hn12, hm12, hn14, hm14, ?_, VA1.out.setCell (by simp) _, VA2.out.setCell (by simp) _, HG2.out, VB.out.setCell (p := ⟨wm.heap.size, 3, none⟩) (Nat.le_refl _) _, by rw [set_size']; omega⟩
                    have := V1.out.set 3 (.slice A6 (k + 1) c6); show Bk _ _ _ _; simpa using this
                  case measure => simp [intOf]; omega
          · rw [decide_eq_false heq] at hse
            have hsn : (f.1.toList != s.toList) = true := by rw [bne, hse]; rfl
            have HL2 := Lib.hid (lookF_none_step hL.out HFJ.out heq)
            clear heq
            go_wp2_with fail
            go_quiet (fail)
            go_wp2_with fail
            go_roundw
            case rel => exact ⟨j + 1, hjn, by go_num, HL2.out, below_drewN hBi.out nq⟩
            case measure => simp [intOf]; omega
        · have hjz : ¬ (j : Int) < (fn : Int) := by omega
          have hjd : decide ((j : Int) < (fn : Int)) = false := decide_eq_false hjz
          have hje : ((j : Int) == (fn : Int)) = true := by rw [beq_iff_eq]; omega
          have HLN : Hid (lookF fs s = none) := by have := hL.out; rwa [List.take_of_length_le (by rw [HFL.out]; omega)] at this
          have HM : Hid (MkR ts lab kd fs [] 8) := ⟨l, 0, HR1.out, .inr ⟨rfl, by rw [hG.out, HDR.out, mkG_none HLN.out]⟩⟩
          go_wp2_with fail
          go_quiet (fail)
          have HTq := Lib.hid (HTi.out.drewN nq)
          have f0 := HTq.out.free 0; have f1 := HTq.out.free 1; have f2 := HTq.out.free 2; have f3 := HTq.out.free 3
          have d0 := HTq.out.cell 0; have d1 := HTq.out.cell 1; have d2 := HTq.out.cell 2; have d3 := HTq.out.cell 3
          simp at f0 f1 f2 f3 d0 d1 d2 d3
          go_wp2_with fail
          exact bodyPost_ret (res_cellMk Tryz.results11 rfl (HTq.out.set4 _ _ _ _) rfl) rfl (MkEnd.none_ HM.out (by decide) (below_set4 (below_drewN HBw.out nq) (by omega) _ _ _ _))
    · have hkz : ¬ (k : Int) < (nn : Int) := by omega
      obtain rfl : nn = k := by omega
      have HM : Hid (MkR ts lab kd fs acc 0) := ⟨l, 0, HR1.out, .inr ⟨rfl, by rw [hG.out, List.drop_of_length_le (by rw [HNL.out]; exact Nat.le_refl _)]; rfl⟩⟩
      have f0 := HTr.out.free 0; have f1 := HTr.out.free 1; have f2 := HTr.out.free 2; have f3 := HTr.out.free 3
      have d0 := HTr.out.cell 0; have d1 := HTr.out.cell 1; have d2 := HTr.out.cell 2; have d3 := HTr.out.cell 3
      have e0 := hY.out.cell 0; have e1 := hY.out.cell 1; have e2 := hY.out.cell 2; have e3 := hY.out.cell 3
      simp at d0 d1 d2 d3 e0 e1 e2 e3
      go_wp2_with fail
      refine bodyPost_ret (res_cellMk Tryz.results11 rfl (HTr.out.set4 _ _ _ _) rfl) rfl ?_
      exact ⟨kd, lab, A1, nn, c1, A2, nn, c2, acc, 0, rfl, ⟨(if_pos rfl).symm, (if_pos rfl).symm, ((((hA1.out.setCell (by show w.heap.size + 1 < _; omega) _).setCell (by show w.heap.size + 1 < _; omega) _).setCell (by show w.heap.size + 1 < _; omega) _).setCell (by show w.heap.size + 1 < _; omega) _).sl, ((((hA2.out.setCell (by show w.heap.size + 1 < _; omega) _).setCell (by show w.heap.size + 1 < _; omega) _).setCell (by show w.heap.size + 1 < _; omega) _).setCell (by show w.heap.size + 1 < _; omega) _).sl⟩, hk1, hkm, hk3, hkm2, HM.out, below_set4 HBb.out (by omega) _ _ _ _⟩
end Go.Proofs.YtiphbincnnppdaaGreatDoor

namespace Go.Proofs.YtiphbincnnppdaaGreatDoor
open Go.RowKit Go.Maps

set_option maxRecDepth 100000 in
set_option maxHeartbeats 4000000 in
theorem sameR_any (k : Int) (l : ByteArray) (A1 A2 A3 A4 : Option Addr) (n1 c1 n2 c2 n3 c3 n4 c4 B : Nat) (is : List Ipt) (fs : List Fl) (w : World) (h1 : Sl w B 3 A1 n1 (flat ipC is)) (h2 : Sl w B 2 A2 n2 (flat flC fs)) (h3 : Sl w B 3 A3 n3 (flat ipC is)) (h4 : Sl w B 2 A4 n4 (flat flC fs)) (hB : B ≤ w.heap.size) (m1 : n1 ≤ maxLen) (m2 : n2 ≤ maxLen) :
    Calls Tryz.prog 12 #[.agg #[.int .i64 k, .string l, .slice A1 n1 c1, .slice A2 n2 c2], .agg #[.int .i64 k, .string l, .slice A3 n3 c3, .slice A4 n4 c4]] w fun e w' => e = .returned (.bool true) ∧ Below w.heap.size w w' := by
  obtain ⟨W0, hW0⟩ : ∃ W0, (w.alloc (.cells #[.int .i64 k, .string l, .slice A1 n1 c1, .slice A2 n2 c2] 33)).alloc (.cells #[.int .i64 k, .string l, .slice A3 n3 c3, .slice A4 n4 c4] 33) = W0 := ⟨_, rfl⟩
  have HB0 : Hid (Below w.heap.size w W0) := by rw [← hW0]; exact ((Below.refl _ w).alloc (Nat.le_refl _) _).alloc (by simp) _
  have zW0 : W0.heap.size = w.heap.size + 2 := by rw [← hW0]; simp
  have K1 : Hid (Bk W0 w.heap.size 33 #[.int .i64 k, .string l, .slice A1 n1 c1, .slice A2 n2 c2]) := by rw [← hW0]; exact (Bk.new w _ _).alloc _
  have K2 : Hid (Bk W0 (w.heap.size + 1) 33 #[.int .i64 k, .string l, .slice A3 n3 c3, .slice A4 n4 c4]) := by
    rw [← hW0]
    have := Bk.new (w.alloc (.cells #[.int .i64 k, .string l, .slice A1 n1 c1, .slice A2 n2 c2] 33)) 33 #[.int .i64 k, .string l, .slice A3 n3 c3, .slice A4 n4 c4]
    rw [World.size_alloc] at this
    exact this
  have u0 := K1.out.cell 0; have u1 := K1.out.cell 1; have u2 := K1.out.cell 2
  have v0 := K2.out.cell 0; have v1 := K2.out.cell 1; have v2 := K2.out.cell 2
  simp at u0 u1 u2 v0 v1 v2
  have HSA : Hid (Calls Tryz.prog 20 #[.agg #[.int .i64 k, .string l, .slice A1 n1 c1], .agg #[.int .i64 k, .string l, .slice A3 n3 c3]] W0 fun e w' => e = .returned (.bool true) ∧ Below W0.heap.size W0 w') :=
    (sameA_any k k l l A1 A3 n1 c1 n3 c3 B is is W0 (h1.below HB0.out hB) (h3.below HB0.out hB) (by omega) m1).mono (fun e w' h => ⟨h.1.trans (ret_bool (decide_eq_true rfl)), h.2⟩)
  have H2 := Lib.hid h2; have H4 := Lib.hid h4
  clear h1 h2 h3 h4
  go_enter Tryz.func12, Tryz.ntmps12
  go_wp2_with fail
  refine HSA.out.mono ?_
  rintro e w1 ⟨rfl, hb1⟩
  have HB1 : Hid (Below w.heap.size w w1) := HB0.out.trans (hb1.mono (by omega))
  have L1 := Lib.hid (K1.out.below hb1 (by omega)); have L2 := Lib.hid (K2.out.below hb1 (by omega))
  have HSF : Hid (Calls Tryz.prog 31 #[.slice A2 n2 c2, .slice A4 n4 c4] w1 fun e w' => e = .returned (.bool true) ∧ ∃ q, w' = w1.drewN q) :=
    (sameF_any A2 A4 n2 c2 n4 c4 B fs fs w1 (H2.out.below HB1.out hB) (H4.out.below HB1.out hB) m2).mono (fun e w' h => ⟨h.1.trans (ret_bool (decide_eq_true rfl)), h.2⟩)
  clear hb1 u0 u1 u2 v0 v1 v2 hW0
  have u3 := L1.out.cell 3; have v3 := L2.out.cell 3
  simp at u3 v3
  go_wp2_with fail
  refine HSF.out.mono ?_
  rintro e w2 ⟨rfl, q, rfl⟩
  have HB2 : Hid (Below w.heap.size w (w1.drewN q)) := below_drewN HB1.out q
  go_wp2_with fail
  go_ret
  exact ⟨rfl, HB2.out⟩
end Go.Proofs.YtiphbincnnppdaaGreatDoor

namespace Go.Proofs.YtiphbincnnppdaaGreatDoor
open Go.RowKit Go.Maps

def GrtEnd (n : Nat) (w : World) (e : Ending) (w' : World) : Prop := ∃ r : Bool, e = .returned (.bool r) ∧ (r = false → n ≤ 12) ∧ w = w'
set_option maxRecDepth 100000 in
set_option maxHeartbeats 4000000 in
theorem rgreat_any (A : Option Addr) (n c B : Nat) (ts : List Tg) (w : World) (h0 : Sl w B 4 A n (flat tgC ts)) (hok : ∀ t ∈ ts, TgOk w B t) (hnc : n ≤ c) (hcm : c ≤ maxLen) :
    Calls Tryz.prog 7 #[.slice A n c] w (GrtEnd n w) := by
  have H0 := Lib.hid h0; have HOK := Lib.hid hok
  clear h0 hok
  have hnm : n ≤ 9223372036854775807 := by unfold maxLen at hcm; omega
  go_enter Tryz.func7, Tryz.ntmps7
  go_wp2
  go_loop [3] (fun i => ∃ k : Nat, k ≤ n ∧ i = .int .i64 k) (fun i => n - (intOf i).toNat)
  case atStart => exact ⟨0, Nat.zero_le _, rfl⟩
  case round =>
    obtain ⟨k, hk, rfl⟩ := hrel
    by_cases hlt : k < n
    · obtain ⟨b, off, t, rfl, hbB, ht, y0, y1, y2, y3⟩ := H0.out.tg hlt
      have HTO := Lib.hid (HOK.out t (List.mem_of_getElem? ht))
      have hkz : (k : Int) < (n : Int) := by omega
      have hd1 := HTO.out.dle; have hd2 := HTO.out.dmax; have hv1 := HTO.out.vle; have hv2 := HTO.out.vmax
      have hdm : t.dn ≤ 9223372036854775807 := by unfold maxLen at hd2; omega
      have hvm : t.vn ≤ 9223372036854775807 := by unfold maxLen at hv2; omega
      clear ht hd1 hd2 hv1 hv2
      obtain ⟨tl, kind, dA, dn, dc, deps, vA, vn, vc, vis⟩ := t
      simp only at y0 y1 y2 y3 hdm hvm
      by_cases c1 : (100 : Int) < (tl.size : Int)
      · go_wp2
        go_ret
        exact ⟨true, rfl, (fun e => by cases e), rfl⟩
      by_cases c2 : (12 : Int) < (dn : Int)
      · go_wp2
        go_ret
        exact ⟨true, rfl, (fun e => by cases e), rfl⟩
      by_cases c3 : (12 : Int) < (vn : Int)
      · go_wp2
        go_ret
        exact ⟨true, rfl, (fun e => by cases e), rfl⟩
      go_wp2
      go_loop [4] (fun i => ∃ j : Nat, j ≤ dn ∧ i = .int .i64 j) (fun i => dn - (intOf i).toNat)
      case atStart => exact ⟨0, Nat.zero_le _, rfl⟩
      case round =>
        obtain ⟨j, hj, rfl⟩ := hrel
        by_cases hjl : j < dn
        · obtain ⟨db, doff, d, hde, hdb, hd, z0⟩ := HTO.out.d.str_at hjl
          simp only at hde
          subst hde
          have hjz : (j : Int) < (dn : Int) := by omega
          clear hd
          by_cases c4 : (100 : Int) < (d.size : Int)
          · go_wp2
            go_ret
            exact ⟨true, rfl, (fun e => by cases e), rfl⟩
          · go_wp2
            go_round
            case rel => exact ⟨j + 1, hjl, by go_num⟩
            case measure => simp [intOf]; omega
        · have hjz : ¬ (j : Int) < (dn : Int) := by omega
          go_wp2
          go_loop [5] (fun i => ∃ j : Nat, j ≤ vn ∧ i = .int .i64 j) (fun i => vn - (intOf i).toNat)
          case atStart => exact ⟨0, Nat.zero_le _, rfl⟩
          case round =>
            obtain ⟨i, hi, rfl⟩ := hrel
            by_cases hil : i < vn
            · obtain ⟨db, doff, d, hde, hdb, hd, z0⟩ := HTO.out.v.str_at hil
              simp only at hde
              subst hde
              have hiz : (i : Int) < (vn : Int) := by omega
              clear hd
              by_cases c4 : (100 : Int) < (d.size : Int)
              · go_wp2
                go_ret
                exact ⟨true, rfl, (fun e => by cases e), rfl⟩
              · go_wp2
                go_round
                case rel => exact ⟨i + 1, hil, by go_num⟩
                case measure => simp [intOf]; omega
            · have hiz : ¬ (i : Int) < (vn : Int) := by omega
              go_wp2
              go_round
              case rel => exact ⟨k + 1, hlt, by go_num⟩
              case measure => simp [intOf]; omega
    · have hkz : ¬ (k : Int) < (n : Int) := by omega
      by_cases c5 : (12 : Int) < (n : Int)
      · go_wp2
        go_ret
        exact ⟨true, rfl, (fun e => by cases e), rfl⟩
      · go_wp2
        go_ret
        exact ⟨false, rfl, (fun _ => by omega), rfl⟩
end Go.Proofs.YtiphbincnnppdaaGreatDoor

namespace Go.Proofs.YtiphbincnnppdaaGreatDoor
open Go.RowKit Go.Maps

set_option maxRecDepth 100000 in
set_option maxHeartbeats 8000000 in
theorem lawMk_any (A : Option Addr) (n c : Nat) (ts : List Tg) (lab : ByteArray) (kd : Int) (fA : Option Addr) (fn fc : Nat) (fs : List Fl) (w : World) (h0 : Sl w w.heap.size 4 A n (flat tgC ts)) (hok : ∀ t ∈ ts, TgOk w w.heap.size t) (hnc : n ≤ c) (hcm : c ≤ maxLen) (hls : lab.size ≤ maxLen)
    (hf : Sl w w.heap.size 2 fA fn (flat flC fs)) (hfs : ∀ f ∈ fs, f.1.size ≤ maxLen ∧ f.2.size ≤ maxLen) :
    Calls Tryz.prog 3 #[.agg #[.slice A n c], .string lab, .int .i64 kd, .slice fA fn fc] w (LawEnd w) := by
  have HFL := Lib.hid (hf.len flC_len (by omega))
  have H0 := Lib.hid h0; have HOK := Lib.hid hok; have HLS := Lib.hid hls; have HF := Lib.hid hf; have HFS := Lib.hid hfs
  clear h0 hok hf hfs
  have hlm : lab.size ≤ 9223372036854775807 := by unfold maxLen at hls; exact hls
  clear hls
  obtain ⟨W0, hW0⟩ : ∃ W0, w.alloc (.cells #[.slice A n c] 24) = W0 := ⟨_, rfl⟩
  have HB0 : Hid (Below w.heap.size w W0) := by rw [← hW0]; exact (Below.refl _ w).alloc (Nat.le_refl _) _
  have zW0 : W0.heap.size = w.heap.size + 1 := by rw [← hW0]; simp
  have HG : Hid (Bk W0 w.heap.size 24 #[.slice A n c]) := by rw [← hW0]; exact Bk.new w _ _
  have g0 := HG.out.cell 0
  simp at g0
  have HGR := Lib.hid (rgreat_any A n c w.heap.size ts W0 (H0.out.below HB0.out (Nat.le_refl _)) (fun t ht => (HOK.out t ht).below HB0.out (Nat.le_refl _)) hnc hcm)
  have HGF := Lib.hid (greatF_any fA fn fc w.heap.size fs W0 (HF.out.below HB0.out (Nat.le_refl _)))
  go_enter Tryz.func3, Tryz.ntmps3
  go_wp2_with fail
  refine HGR.out.mono ?_
  rintro e w1 ⟨r, rfl, _, rfl⟩
  cases r with
  | true =>
    go_wp2_with fail
    refine (awake_any _).mono ?_
    rintro e wz ⟨rfl, hbz⟩
    have HBz := Lib.hid (HB0.out.trans (hbz.mono (by omega))); clear hbz
    go_wp2_with fail
    go_ret
    exact ⟨rfl, HBz.out⟩
  | false =>
    by_cases hl : (200 : Int) < (lab.size : Int)
    · go_wp2_with fail
      refine (awake_any _).mono ?_
      rintro e wz ⟨rfl, hbz⟩
      have HBz := Lib.hid (HB0.out.trans (hbz.mono (by omega))); clear hbz
      go_wp2_with fail
      go_ret
      exact ⟨rfl, HBz.out⟩
    · by_cases hsm : SmallF fs
      case neg =>
        rw [decide_eq_false hsm] at HGF
        clear hsm
        go_wp2_with fail
        refine HGF.out.mono ?_
        rintro e wf ⟨rfl, rfl⟩
        go_wp2_with fail
        refine (awake_any _).mono ?_
        rintro e wz ⟨rfl, hbz⟩
        have HBz := Lib.hid (HB0.out.trans (hbz.mono (by omega))); clear hbz
        go_wp2_with fail
        go_ret
        exact ⟨rfl, HBz.out⟩
      have hfn : fn ≤ 1000 := by have := hsm.1; rw [HFL.out] at this; omega
      rw [decide_eq_true hsm] at HGF
      have HMK := Lib.hid (make_any A n c w.heap.size ts lab kd fA fn fc fs W0 (H0.out.below HB0.out (Nat.le_refl _)) (fun t ht => (HOK.out t ht).below HB0.out (Nat.le_refl _)) (by omega) hnc hcm HLS.out (HF.out.below HB0.out (Nat.le_refl _)) hfn HFS.out)
      clear hsm
      go_wp2_with fail
      refine HGF.out.mono ?_
      rintro e wf ⟨rfl, rfl⟩
      go_wp2_with fail
      refine HMK.out.mono ?_
      rintro e w2 ⟨k, l, A1, n1, c1, A2, n2, c2, out, err, rfl, ⟨hk, hlb, hs1, hs2⟩, m1, m2, m3, m4, hmr, hb2⟩
      have HB2 : Hid (Below w.heap.size w w2) := HB0.out.trans (hb2.mono (by omega))
      have hz2 := hb2.size
      obtain ⟨W2, hW2⟩ : ∃ W2, w2.alloc (.cells #[.int .i64 k, .string l, .slice A1 n1 c1, .slice A2 n2 c2] 33) = W2 := ⟨_, rfl⟩
      have HK2 : Hid (Bk W2 w2.heap.size 33 #[.int .i64 k, .string l, .slice A1 n1 c1, .slice A2 n2 c2]) := by rw [← hW2]; exact Bk.new w2 _ _
      have HB2' : Hid (Below w.heap.size w W2) := by rw [← hW2]; exact HB2.out.alloc HB2.out.size _
      have hbw2 : Below w2.heap.size w2 W2 := by rw [← hW2]; exact (Below.refl _ w2).alloc (Nat.le_refl _) _
      have zW2 : W2.heap.size = w2.heap.size + 1 := by rw [← hW2]; simp
      have HG2 := Lib.hid ((HG.out.below hb2 (by omega)).below hbw2 (by omega))
      have HS1 : Hid (Sl W2 W2.heap.size 3 A1 n1 (flat ipC (out.map ipF))) := (hs1.below hbw2 (Nat.le_refl _)).more (by omega)
      have HS2 : Hid (Sl W2 W2.heap.size 2 A2 n2 (flat flC out)) := (hs2.below hbw2 (Nat.le_refl _)).more (by omega)
      have HMR := Lib.hid hmr; have HKK := Lib.hid hk; have HLL := Lib.hid hlb
      have HRM := Lib.hid (rmake_any A n c w.heap.size ts lab kd fA fn fc fs W2 (H0.out.below HB2'.out (Nat.le_refl _)) (fun t ht => (HOK.out t ht).below HB2'.out (Nat.le_refl _)) (by omega) hnc hcm (HF.out.below HB2'.out (Nat.le_refl _)) hfn HFS.out)
      have h1m : n1 ≤ maxLen := Nat.le_trans m1 m2
      have h2m : n2 ≤ maxLen := Nat.le_trans m3 m4
      have HW2 := Lib.hid hW2
      clear hs1 hs2 m1 m2 m3 m4 hmr hb2 hbw2 hk hlb g0 HMK HGF HGR hW0 hW2
      have g0 := HG2.out.cell 0
      simp at g0
      rw [← HW2.out] at g0
      go_wp2_with fail
      rw [HW2.out]
      refine HRM.out.mono ?_
      rintro e w3 ⟨k3, l3, A3, n3, c3, A4, n4, c4, out3, err3, rfl, ⟨hk, hlb, hs3, hs4⟩, m1, m2, m3, m4, hmr, hb3⟩
      obtain ⟨rfl, rfl⟩ := HMR.out.same hmr
      obtain rfl : k3 = k := hk.trans HKK.out.symm
      obtain rfl : l3 = l := hlb.trans HLL.out.symm
      have HB3 : Hid (Below w.heap.size w w3) := HB2'.out.trans (hb3.mono (by omega))
      obtain ⟨W3, hW3⟩ : ∃ W3, w3.alloc (.cells #[.int .i64 k3, .string l3, .slice A3 n3 c3, .slice A4 n4 c4] 33) = W3 := ⟨_, rfl⟩
      have hbw3 : Below w3.heap.size w3 W3 := by rw [← hW3]; exact (Below.refl _ w3).alloc (Nat.le_refl _) _
      have HK3 : Hid (Bk W3 w3.heap.size 33 #[.int .i64 k3, .string l3, .slice A3 n3 c3, .slice A4 n4 c4]) := by rw [← hW3]; exact Bk.new w3 _ _
      have hz3 := hb3.size
      have HK2' := Lib.hid ((HK2.out.below hb3 (by omega)).below hbw3 (by omega))
      have zW3 : W3.heap.size = w3.heap.size + 1 := by rw [← hW3]; simp
      have HB3' : Hid (Below w.heap.size w W3) := HB3.out.trans (hbw3.mono HB3.out.size)
      have HSR := Lib.hid (sameR_any k3 l3 A1 A2 A3 A4 n1 c1 n2 c2 n3 c3 n4 c4 W3.heap.size (out.map ipF) out W3 (((HS1.out.below hb3 (Nat.le_refl _)).below hbw3 (by omega)).more (by omega)) (((HS2.out.below hb3 (Nat.le_refl _)).below hbw3 (by omega)).more (by omega)) ((hs3.below hbw3 (Nat.le_refl _)).more (by omega)) ((hs4.below hbw3 (Nat.le_refl _)).more (by omega)) (Nat.le_refl _) h1m h2m)
      have HW3 := Lib.hid hW3
      have a0 := HK2'.out.cell 0; have a1 := HK2'.out.cell 1; have a2 := HK2'.out.cell 2; have a3 := HK2'.out.cell 3
      have b0 := HK3.out.cell 0; have b1 := HK3.out.cell 1; have b2 := HK3.out.cell 2; have b3 := HK3.out.cell 3
      simp at a0 a1 a2 a3 b0 b1 b2 b3
      rw [← HW3.out] at a0 a1 a2 a3 b0 b1 b2 b3
      clear hs3 hs4 m1 m2 m3 m4 hmr hb3 hbw3 hk hlb g0 HRM hW3
      go_wp2_with fail
      rw [HW3.out]
      refine HSR.out.mono ?_
      rintro e w4 ⟨rfl, hb4⟩
      have HB4 : Hid (Below w.heap.size w w4) := HB3'.out.trans (hb4.mono (by have := HB3'.out.size; omega))
      clear hb4 a0 a1 a2 a3 b0 b1 b2 b3
      go_wp2_with fail
      refine (awake_any _).mono ?_
      rintro e wz ⟨rfl, hbz⟩
      have HBz := Lib.hid (HB4.out.trans (hbz.mono HB4.out.size)); clear hbz
      go_wp2_with fail
      go_ret
      exact ⟨rfl, HBz.out⟩
end Go.Proofs.YtiphbincnnppdaaGreatDoor
