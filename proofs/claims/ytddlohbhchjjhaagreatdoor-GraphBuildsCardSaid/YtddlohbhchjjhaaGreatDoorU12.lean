/-
  Lemmas: graph.Affected. Lists of strings compared (the statement's SameStrings, slices.Equal), and the statement's measure of a list. awake: the chapter's example. Drawn regions, some of whose values are described, not given. slices.IndexFunc over targets with the statements' closures: the first target with a label. slices.Index on strings. The reference's bounds on targets: what they say. The reference's Same: graphs that say the same. The reference's paths: cut, ValidName, Path, Below. The reference's Path and Below.
-/
import Derived.Deep.QuietTactic
import Derived.BigQuiet
import Derived.Test.YtddlohbhchjjhaaGreatDoorU11

namespace Go.Proofs.YtddlohbhchjjhaaGreatDoor
open Go.RowKit Go.Maps
attribute [local go_sem] Oper.semAt_some

theorem resultsAff {w : World} {a : Array Value} {v : Value} (ha : a[4]?.getD undef = v) : (results Tryz.f37 a).run Tryz.prog w = .ok v w := by
  simp [results, Tryz.results37, ha, go_sem]
def Marks (ds : List Deferred) (base : Nat) (w : World) : Prop := ∃ Ds : List Nat, ds = Ds.map (fun D => { target := .collected D, args := #[] }) ∧ Ds.Nodup ∧ ∀ D ∈ Ds, base ≤ D ∧ w.heap[D]? = some (.deferred (some []))
theorem Marks.nil (base : Nat) (w : World) : Marks [] base w := ⟨[], rfl, List.nodup_nil, fun D h => by cases h⟩
theorem Marks.keep {ds : List Deferred} {base : Nat} {w w' : World} (h : Marks ds base w) (hk : ∀ D, base ≤ D → w.heap[D]? = some (.deferred (some [])) → w'.heap[D]? = w.heap[D]?) : Marks ds base w' := by
  obtain ⟨Ds, h1, h2, h3⟩ := h
  exact ⟨Ds, h1, h2, fun D hD => ⟨(h3 D hD).1, (hk D (h3 D hD).1 (h3 D hD).2).trans (h3 D hD).2⟩⟩
theorem Marks.below {ds : List Deferred} {base : Nat} {w w' : World} (h : Marks ds base w) (hb : Below w.heap.size w w') : Marks ds base w' := h.keep fun _ _ hD => hb.block _ (Array.getElem?_eq_some_iff.1 hD).1
theorem Marks.add {ds : List Deferred} {base : Nat} {w : World} {D : Nat} (h : Marks ds base w) (hD : w.heap[D]? = some (.deferred (some []))) (hb : base ≤ D) (hn : ∀ Ds : List Nat, ds = Ds.map (fun D => { target := .collected D, args := #[] }) → (∀ E ∈ Ds, w.heap[E]? = some (.deferred (some [])) ∧ base ≤ E) → D ∉ Ds) :
    Marks ({ target := .collected D, args := #[] } :: ds) base w := by
  obtain ⟨Ds, h1, h2, h3⟩ := h
  refine ⟨D :: Ds, by rw [h1]; rfl, List.nodup_cons.2 ⟨hn Ds h1 fun E hE => ⟨(h3 E hE).2, (h3 E hE).1⟩, h2⟩, fun E hE => ?_⟩
  rcases List.mem_cons.1 hE with rfl | hE
  · exact ⟨hb, hD⟩
  · exact h3 E hE
theorem leaves_marks {F : Fence} {n : Nat} {P : Program} {fn : Func} {tmps : Array Value} {R : Ending → World → Prop} {base : Nat} : ∀ (Ds : List Nat) (w : World), Ds.Nodup → (∀ D ∈ Ds, base ≤ D ∧ w.heap[D]? = some (.deferred (some []))) →
    (∀ w', (∀ k, k < base → w'.heap[k]? = w.heap[k]?) → (∀ k, (∀ D ∈ Ds, k ≠ D) → w'.heap[k]? = w.heap[k]?) → w'.heap.size = w.heap.size → w'.os = w.os → w'.tape = w.tape → w'.output = w.output → LeavesInM F n P fn tmps R [] .returning w') →
    LeavesInM F n P fn tmps R (Ds.map (fun D => { target := .collected D, args := #[] })) .returning w
  | [], w, _, _, h => h w (fun _ _ => rfl) (fun _ _ => rfl) rfl rfl rfl rfl
  | D :: Ds, w, hn, hD, h => by
    obtain ⟨hn1, hn2⟩ := List.nodup_cons.1 hn
    have hDD := hD D (by simp)
    refine ⟨by simp, .inl ⟨D, _, rfl, run_takeDeferred hDD.2, ?_⟩⟩
    refine leaves_marks Ds _ hn2 (fun E hE => ⟨(hD E (by simp [hE])).1, (World.putObj_heap_other (fun e => hn1 (by subst e; exact hE))).trans (hD E (by simp [hE])).2⟩) fun w' h1 h2 h3 h4 h5 h6 => ?_
    refine h w' (fun k hk => (h1 k hk).trans (World.putObj_heap_other (by omega))) (fun k hk => (h2 k fun E hE => hk E (by simp [hE])).trans (World.putObj_heap_other (hk D (by simp)))) ?_ h4 h5 h6
    rw [h3]; simp [World.putObj]
set_option maxRecDepth 100000 in
set_option maxHeartbeats 8000000 in
theorem affected_any (A : Option Addr) (n c B : Nat) (ts : List Tg) (pA : Option Addr) (pn pc : Nat) (ps : List ByteArray) (w : World) (h0 : Sl w B 4 A n (flat tgC ts)) (hok : ∀ t ∈ ts, TgOk w B t) (hp : Sl w B 1 pA pn (strs ps)) (hB : B ≤ w.heap.size) (hnc : n ≤ c) (hcm : c ≤ maxLen) (hpn : pn ≤ 1000000) (hps : ∀ p ∈ ps, p.size ≤ maxLen) :
    Calls Tryz.prog 37 #[.agg #[.slice A n c], .slice pA pn pc] w (AffEnd ts ps w) := by
  refine (callsIn_wide (n := 6)).1 ?_
  have hf1 : Fence.wide.fn 65 := trivial
  have hf2 : Fence.wide.fn 53 := trivial
  have hf3 : Fence.wide.fn 62 := trivial
  have hf4 : Fence.wide.fn 70 := trivial
  have hf5 : Fence.wide.fn 77 := trivial
  have hf6 : Fence.wide.fn 48 := trivial
  have hf7 : Fence.wide.fn 47 := trivial
  have HTL := Lib.hid (h0.len tgC_len (by omega))
  have HPL : Hid (ps.length = pn) := by have h1 := hp.1; rw [strs_len] at h1; show _ = _; omega
  have H0 := Lib.hid h0; have HOK := Lib.hid hok; have HP := Lib.hid hp; have HPS := Lib.hid hps
  clear h0 hok hp hps
  have HB0 : Hid (Below w.heap.size w (w.alloc (.cells #[.slice A n c] 27))) := (Below.refl _ w).alloc (Nat.le_refl _) _
  have HG0 : Hid (Bk (w.alloc (.cells #[.slice A n c] 27)) w.heap.size 27 #[.slice A n c]) := Bk.new w _ _
  have hmm := @run_makeMap Tryz.prog
  have hzz := Tryz.zeroValue4
  refine callsIn_of_wp_marks Tryz.func37 rfl trivial ?_ rfl
  simp only [Tryz.ntmps37, List.size_toArray, List.length_cons, List.length_nil, Nat.reduceAdd, Nat.reduceSub, Array.replicate_succ, Array.replicate_zero, List.push_toArray, List.append_toArray, List.nil_append, List.cons_append]
  have HV1 := Lib.hid (valid_any A n c B ts (w.alloc (.cells #[.slice A n c] 27)) (H0.out.below HB0.out hB) (fun t ht => (HOK.out t ht).below HB0.out hB) (by simp; omega) hnc hcm)
  gi_wp2_with (gi_at_call 70; refine (callsIn_wide.2 HV1.out).mono ?_; rintro e w1 ⟨r, rfl, hr, hb1⟩; refine halt_ ?_)
  refine unhalt ?_
  have HR := Lib.hid hr
  have HB1 : Hid (Below w.heap.size w w1) := HB0.out.trans (hb1.mono (by simp))
  have HG1 := Lib.hid (HG0.out.below hb1 (by simp))
  have hz1 : w.heap.size < w1.heap.size := by have := hb1.size; simp at this; omega
  clear hr hb1 HV1 HG0
  cases r with
  | false =>
    have HN : Hid (¬ Vld ts) := fun h => by have := HR.out.2 h; cases this
    gi_wp2
    exact ⟨_, resultsAff rfl, none, 0, 0, [], rfl, Sl.nil _ _ _ _, Nat.le_refl _, Nat.zero_le _, .inl ⟨HN.out, rfl⟩, HB1.out⟩
  | true =>
    have HVL := Lib.hid (HR.out.1 rfl)
    have hn100 : n ≤ 100 := by have := HVL.out.few; rw [HTL.out] at this; exact this
    have HDM : Hid (∀ t ∈ ts, t.deps.length ≤ 20) := fun t ht => (HVL.out.all t ht).few
    have HM0 : Hid (Rm (w1.alloc (.map #[] 0)) Tryz.prog 9 w1.heap.size 0 (pG (ps.take 0))) := by
      show Rm _ _ _ _ _ (pG []); rw [pG_nil]; exact Rm.made w1 Tryz.prog 9
    clear HR
    gi_wp2
    gi_loopw [23] (fun i wr => ∃ k : Nat, k ≤ pn ∧ i = .int .i64 k ∧ Hid (Rm wr Tryz.prog 9 w1.heap.size k (pG (ps.take k))) ∧ Hid (Below w1.heap.size w1 wr) ∧ w1.heap.size < wr.heap.size) (fun i _ => pn - (intOf i).toNat)
    case atStart => exact ⟨0, Nat.zero_le _, rfl, HM0.out, (Below.refl _ w1).alloc (Nat.le_refl _) _, by simp⟩
    case round =>
      obtain ⟨k, hk, rfl, hM, hBel, hwz⟩ := hrel
      have HBw : Hid (Below w.heap.size w wr) := HB1.out.trans (hBel.out.mono (by omega))
      by_cases hlt : k < pn
      · obtain ⟨b, off, x, rfl, hb, hx, y0⟩ := (HP.out.below HBw.out hB).str_at hlt
        have hlz : (k : Int) < (pn : Int) := by omega
        have hxs : x.size ≤ maxLen := HPS.out x (List.mem_of_getElem? hx)
        have HTK := Lib.hid (take_snoc hx)
        clear hx
        gi_wp2_with (gi_at_mapUpdate; refine halt_ ?_)
        refine unhalt ?_
        refine wpListIn_put_rm rfl _ _ _ 66 rfl 9 4 Tryz.underlying9 Tryz.underlying66 w1.heap.size k _ rfl hM.out (by unfold maxLen; omega) x hxs (.bool true) rfl rfl ?_
        intro w3 hM3 hg3
        replace hM3 : Rm w3 Tryz.prog 9 w1.heap.size (k + 1) (upd (pG (ps.take k)) x (.bool true)) := hM3
        rw [← pG_snoc, ← HTK.out] at hM3
        have HM3 := Lib.hid hM3
        have HB3 : Hid (Below w1.heap.size w1 w3) := hBel.out.grown hg3 (by omega) (fun q e => by cases e; omega)
        have hz3 := hg3.size
        clear hM3 hg3
        gi_wp2
        go_roundw
        case rel => exact ⟨k + 1, hlt, by go_num, HM3.out, HB3.out, by omega⟩
        case measure => simp [intOf]; omega
      · have hlz : ¬ (k : Int) < (pn : Int) := by omega
        have HMP : Hid (Rm wr Tryz.prog 9 w1.heap.size k (pG ps)) := by
          have h1 := hM.out
          rw [List.take_of_length_le (by rw [HPL.out]; omega)] at h1
          exact h1
        have HBE := Lib.hid hBel.out
        have HGr := Lib.hid (HG1.out.below hBel.out (by omega))
        obtain ⟨wp, hwp⟩ : ∃ wp, wp = wr := ⟨_, rfl⟩
        subst hwp
        have g0 := HGr.out.cell 0
        simp at g0
        have HI := Lib.hid (index_any A n c B ts wp (H0.out.below HBw.out hB) (Nat.le_trans hB HBw.out.size) (by omega) (fun t ht => (HOK.out t ht).ls))
        clear hM hBel HM0
        gi_wp2_with (gi_at_call 53; refine (callsIn_wide.2 HI.out).mono ?_; rintro e w2 ⟨rfl, hM, hb2⟩; refine halt_ ?_)
        refine unhalt ?_
        have HM := Lib.hid hM
        have HB2 : Hid (Below w.heap.size w w2) := HBw.out.trans (hb2.mono (by omega))
        have hz2 : wp.heap.size < w2.heap.size := HM.out.lt
        have HB12 : Hid (Below wp.heap.size wp w2) := hb2
        clear hM hb2 HI g0
        have HE1 := Lib.hid (edges_any wp.heap.size n 20 B ts w2 HM.out (fun t ht => (HOK.out t ht).below HB2.out hB) (Nat.le_trans hB HB2.out.size) (by omega) HDM.out (by omega))
        gi_wp2_with (gi_at_call 62; refine (callsIn_wide.2 HE1.out).mono ?_; rintro e w3 ⟨rfl, gd, gu, L, hE, hLd, hLu, hb3⟩; refine halt_ ?_)
        refine unhalt ?_
        have HNU := Lib.hid hE.nxmU
        have HLu := Lib.hid hLu
        have hz3 : w2.heap.size + 1 < w3.heap.size := hE.u.lt
        have HB23 : Hid (Below wp.heap.size wp w3) := HB12.out.trans (hb3.mono (by omega))
        have HB3 : Hid (Below w.heap.size w w3) := HB2.out.trans (hb3.mono (by omega))
        have HU2 : Hid (∀ x, ∀ y ∈ L (true, x), y ∈ ts.map Tg.lab) := fun x y hy => (isT_iff ts y).1 (nxT_mem ((hLu x y).1 hy)).2
        have HUl : Hid ((ts.map Tg.lab).length ≤ 1000) := by show _ ≤ _; rw [List.length_map, HTL.out]; omega
        have HUs : Hid (∀ y ∈ ts.map Tg.lab, y.size ≤ maxLen) := fun y hy => by
          obtain ⟨t, ht, rfl⟩ := List.mem_map.1 hy
          exact (HOK.out t ht).ls
        have HMP3 := Lib.hid (HMP.out.below HB23.out (by omega))
        have HG3 := Lib.hid (HGr.out.below HB23.out (by omega))
        clear hE hLd hLu hb3 HE1 HM HB1 HB12
        obtain ⟨W4, hW4⟩ : ∃ W4, (w3.alloc (.map #[] 0)).alloc (.cells #[.map (some w3.heap.size)] 66) = W4 := ⟨_, rfl⟩
        have zW4 : W4.heap.size = w3.heap.size + 2 := by rw [← hW4]; simp
        have HB4 : Hid (Below w3.heap.size w3 W4) := by rw [← hW4]; exact ((Below.refl _ w3).alloc (Nat.le_refl _) _).alloc (by simp) _
        have HA4 : Hid (Rm W4 Tryz.prog 9 w3.heap.size 0 (pG [])) := by rw [← hW4, pG_nil]; exact (Rm.made w3 Tryz.prog 9).alloc _
        have HX4 : Hid (W4.heap[w3.heap.size + 1]? = some (.cells #[.map (some w3.heap.size)] 66 (0, 0))) := by
          rw [← hW4]
          have := World.alloc_heap_new (w3.alloc (.map #[] 0)) (.cells #[.map (some w3.heap.size)] 66); rwa [World.size_alloc] at this
        have g0 := (HG3.out.below HB4.out (by omega)).cell 0
        simp at g0
        gi_wp2
        refine wpIn_loop (fun a' wr => ∃ (w_12 w_13 w_41 w_42 w_43 w_44 w_45 w_46 w_47 w_48 w_49 w_50 w_51 w_52 w_53 w_54 w_55 w_56 w_57 w_58 w_59 w_60 w_61 w_62 w_63 w_64 w_65 w_66 w_67 w_68 w_69 w_70 w_71 : Value) (ds : List Deferred), (∃ (k N : Nat) (al : List ByteArray), k ≤ n ∧ w_41 = .int .i64 (k : Int) ∧ N ≤ 2000 * k ∧ Hid (Rm wr Tryz.prog 9 w3.heap.size N (pG al)) ∧ Hid (∀ x, x ∈ al ↔ AffK ts ps k x) ∧ Hid (wr.heap[w3.heap.size + 1]? = some (.cells #[.map (some w3.heap.size)] 66 (0, 0))) ∧ Hid (Below w3.heap.size w3 wr) ∧ Hid (Marks ds (w3.heap.size + 2) wr) ∧ w3.heap.size + 2 ≤ wr.heap.size) ∧ a' = { tmps := #[.agg #[.slice A n c], .slice pA pn pc, .pointer (some ⟨w.heap.size, 0, none⟩), undef, .slice none 0 0, .map (some w1.heap.size), undef, u7, .map (some w2.heap.size), .map (some (w2.heap.size + 1)), .pointer (some ⟨w3.heap.size + 1, 0, none⟩), undef, w_12, w_13, undef, undef, undef, .agg #[.slice A n c], .bool true, .bool false, .map (some w1.heap.size), .slice pA pn pc, .int .i64 (pn : Int), .int .i64 (k : Int), .bool false, u25, u26, u27, u28, u29, .tuple #[.map (some w2.heap.size), .map (some (w2.heap.size + 1))], .pointer (some ⟨w.heap.size, 0, none⟩), .slice A n c, .map (some wp.heap.size), .tuple #[.map (some w2.heap.size), .map (some (w2.heap.size + 1))], .map (some w2.heap.size), .map (some (w2.heap.size + 1)), .map (some w3.heap.size), .pointer (some ⟨w.heap.size, 0, none⟩), .slice A n c, .int .i64 (n : Int), w_41, w_42, w_43, w_44, w_45, w_46, w_47, w_48, w_49, w_50, w_51, w_52, w_53, w_54, w_55, w_56, w_57, w_58, w_59, w_60, w_61, w_62, w_63, w_64, w_65, w_66, w_67, w_68, w_69, w_70, w_71, undef, undef, undef, undef, undef, undef, undef, undef, undef, undef, undef, undef, undef, undef, undef, undef, undef, undef], defers := ds }) (fun a' _ => n - (intOf (a'.tmps.getD 41 undef)).toNat) ?_ ?_
        · (repeat apply Exists.intro)
          refine ⟨⟨0, 0, [], Nat.zero_le _, rfl, Nat.zero_le _, HA4.out, fun x => ⟨(fun h => by cases h), fun h => absurd h (AffK.zero ts ps x)⟩, HX4.out, HB4.out, Marks.nil _ _, by omega⟩, rfl⟩
        · rintro a' wm ⟨u12, u13, _, u42, u43, u44, u45, u46, u47, u48, u49, u50, u51, u52, u53, u54, u55, u56, u57, u58, u59, u60, u61, u62, u63, u64, u65, u66, u67, u68, u69, u70, u71, ds, ⟨k, N, al, hk, rfl, hN, hM, hMe, hX, hBel, hMk, hwz⟩, rfl⟩
          have HBw : Hid (Below w.heap.size w wm) := HB3.out.trans (hBel.out.mono (by omega))
          by_cases hlt : k < n
          · obtain ⟨b, off, t, rfl, hbB, ht, y0, y1, y2, y3⟩ := (H0.out.below HBw.out hB).tg hlt
            have hlz : (k : Int) < (n : Int) := by omega
            have HTT := Lib.hid ht
            have hls : t.lab.size ≤ 90 := lab_size (HVL.out.at_ ht).lab
            obtain ⟨W5, hW5⟩ : ∃ W5, wm.alloc (.cells #[.string t.lab, .int .i64 t.kind, .slice t.dA t.dn t.dc, .slice t.vA t.vn t.vc] 35) = W5 := ⟨_, rfl⟩
            have HK5 : Hid (Bk W5 wm.heap.size 35 #[.string t.lab, .int .i64 t.kind, .slice t.dA t.dn t.dc, .slice t.vA t.vn t.vc]) := by rw [← hW5]; exact Bk.new wm _ _
            have zW5 : W5.heap.size = wm.heap.size + 1 := by rw [← hW5]; simp
            have HBr5 : Hid (Below wm.heap.size wm W5) := by rw [← hW5]; exact (Below.refl _ wm).alloc (Nat.le_refl _) _
            have HMP5 := Lib.hid (HMP3.out.below (hBel.out.trans (HBr5.out.mono (by omega))) (by omega))
            obtain ⟨lab, kind, dA, dn, dc, deps, vA, vn, vc, vis⟩ := t
            simp only at y0 y1 y2 y3 hls hW5 HK5
            have hds := dir_size lab
            have hlm : lab.size ≤ maxLen := by unfold maxLen; omega
            have hbs : (bldS (dirS lab)).size ≤ 100 := by
              unfold bldS
              split
              · decide
              · rw [ByteArray.size_append]
                have : slBuildW.size = 6 := rfl
                omega
            have hps1 : (lab ++ pkW).size ≤ maxLen := by
              rw [ByteArray.size_append]
              have : pkW.size = 3 := rfl
              unfold maxLen; omega
            have hps2 : (bldS (dirS lab)).size ≤ maxLen := by unfold maxLen; omega
            have HMO := Lib.hid (modulePath_any lab W5 (by omega))
            have HDI := Lib.hid (directory_any lab W5 (by omega))
            have HBU := Lib.hid (buildPath_any (dirS lab) W5 (by omega))
            have hl1 := HMP5.out.look Tryz.underlying9 Tryz.underlying66 (hzz _) hps1
            have hl2 := HMP5.out.look Tryz.underlying9 Tryz.underlying66 (hzz _) hps2
            rw [pG_get] at hl1 hl2
            have x0 := HK5.out.cell 0
            simp at x0
            have HW5 := Lib.hid hW5
            clear ht
            cases m1 : memB ps (lab ++ pkW) with
            | true =>
              rw [m1] at hl1
              have HH : Hid (hitB ps lab = true) := by show _ = _; unfold hitB; rw [m1]; rfl
              clear m1
              have HIX5 : Hid (W5.heap[w3.heap.size + 1]? = some (.cells #[.map (some w3.heap.size)] 66 (0, 0))) := (HBr5.out.block _ (by omega)).trans hX.out
              have b0 := cell_of_one HIX5.out
              have HM5 := Lib.hid (hM.out.below HBr5.out (by omega))
              have HMK5 := Lib.hid (hMk.out.below HBr5.out)
              have xx := HK5.out.cell 0
              simp at xx
              gi_wp2_with (first
                | (gi_at_call 77; refine (callsIn_wide.2 HMO.out).mono ?_; rintro e w' ⟨rfl, rfl⟩)
                | (gi_at_call 48; refine (callsIn_wide.2 HDI.out).mono ?_; rintro e w' ⟨rfl, rfl⟩)
                | (gi_at_call 47; refine (callsIn_wide.2 HBU.out).mono ?_; rintro e w' ⟨rfl, rfl⟩)
                | (gi_at_mapUpdate; refine halt_ ?_))
              refine unhalt ?_
              refine wpListIn_put_rm rfl _ _ _ 66 rfl 9 4 Tryz.underlying9 Tryz.underlying66 w3.heap.size N _ rfl HM5.out (by unfold maxLen; omega) lab hlm (.bool true) rfl rfl ?_
              intro w6 hM6 hg6
              replace hM6 : Rm w6 Tryz.prog 9 w3.heap.size (N + 1) (upd (pG al) lab (.bool true)) := hM6
              rw [← pG_snoc] at hM6
              have HM6 := Lib.hid hM6
              have HB6 : Hid (Below w3.heap.size w3 w6) := (hBel.out.trans (HBr5.out.mono (by omega))).grown hg6 (by omega) (fun q e => by cases e; omega)
              have HK6 : Hid (Bk w6 wm.heap.size 35 #[.string lab, .int .i64 kind, .slice dA dn dc, .slice vA vn vc]) := HK5.out.grown hg6 (by simp; omega)
              have HX6 := Lib.hid (one_grown HIX5.out hg6 (by simp))
              have HMK6 : Hid (Marks ds (w3.heap.size + 2) w6) := HMK5.out.keep fun D hD hb => hg6.block D (Array.getElem?_eq_some_iff.1 hb).1 (by simp; omega)
              have hz6 := hg6.size
              have x6 := HK6.out.cell 0
              simp at x6
              clear hM6 hg6 b0 xx x0 hl1 hl2
              gi_wp2_with (gi_at_call 65; refine (callsIn_wide.2 (reached_any _ _ _)).mono ?_; rintro e w' ⟨rfl, rfl⟩)
              have hnx : NxR ((w6.alloc (.cells #[.map (some (w2.heap.size + 1))] 81)).alloc (.cells #[.string lab] 9)) Tryz.prog 9 81 w3.heap.size (w6.heap.size + 1) w6.heap.size (w2.heap.size + 1) 2000000 lab gu (fun s => L (true, s)) :=
                (HNU.out.below HB6.out (Nat.le_refl _)).boxed HB6.out.size lab
              obtain ⟨W7, hW7⟩ : ∃ W7, (w6.alloc (.cells #[.map (some (w2.heap.size + 1))] 81)).alloc (.cells #[.string lab] 9) = W7 := ⟨_, rfl⟩
              have hy7 : W7.heap.size = w6.heap.size + 2 := by rw [← hW7]; simp
              have hb67 : Below w6.heap.size w6 W7 := by rw [← hW7]; exact ((Below.refl _ w6).alloc (Nat.le_refl _) _).alloc (by simp) _
              have HB7 : Hid (Below w3.heap.size w3 W7) := HB6.out.trans (hb67.mono (by omega))
              have HK7 : Hid (∀ j, j < w6.heap.size → W7.heap[j]? = w6.heap[j]?) := fun j hj => hb67.block j hj
              have g0 : Rm W7 Tryz.prog 9 w3.heap.size (N + 1 + ([] : List (ByteArray × Nat)).length) (pG (al ++ [lab] ++ ([] : List (ByteArray × Nat)).map Prod.fst)) := by simpa using HM6.out.below hb67 (by omega)
              rw [hW7] at hnx ⊢
              clear hW7 hb67
              refine wpIn_rangeT (α := ByteArray × Nat) (F := Fence.wide) (n := 6) rfl (by omega) (gf := 108) (lb := #[.pointer (some ⟨w6.heap.size + 1, 0, none⟩), .pointer (some ⟨w6.heap.size, 0, none⟩)]) rfl trivial (enters_of Tryz.func108 (by kernel_rfl) rfl)
                (reached_st 5 (by omega) w3.heap.size (w6.heap.size + 1) w6.heap.size (w2.heap.size + 1) 2000000 (W7.heap.size + 2) lab gu (fun s => L (true, s)) (ts.map Tg.lab) W7 hnx (by omega) (by omega) (by omega) (by omega) HU2.out HUl.out HUs.out hlm) KeepR.trans (fun W l r o' hl hlr => keepR_put W l r o' hlr (by omega) (by omega)) (fun A C h hA => stepR_rec h rfl hA) (Below.refl _ _) (fun _ => rfl)
                (fun pre W => (∀ j, j < w6.heap.size → j ≠ w3.heap.size → W.heap[j]? = w6.heap[j]?) ∧ Rm W Tryz.prog 9 w3.heap.size (N + 1 + pre.length) (pG (al ++ [lab] ++ pre.map Prod.fst)) ∧ Below w3.heap.size w3 W ∧ w6.heap.size + 2 ≤ W.heap.size)
                (fun _ _ _ => False)
                ?hIz14 ?hIxz14 ?hISz14 ⟨fun j hj _ => HK7.out j hj, g0, HB7.out, by omega⟩ ?a1z14 ?assignz14 ?bodyz14 ?donez14 ?stopz14
              case assignz14 =>
                intro l y W K hK
                have HKK := Lib.hid hK
                clear hK
                gi_wp2
                exact HKK.out
              case hIz14 =>
                rintro pre A C row ⟨h0, h1, h2, h3⟩ hg hr
                refine ⟨fun j hj hne => (hg.block j (by omega) (fun e => ?_)).trans (h0 j hj hne), h1.kept hg (fun e => ?_), h2.grown hg h2.size (fun k e => ?_), Nat.le_trans h3 hg.size⟩
                · have := (hr _ e.symm).1; omega
                · have := (hr _ e.symm).1; omega
                · have := (hr _ e).1; omega
              case hIxz14 => rintro c pre A C row hf _ _; exact hf
              case hISz14 =>
                rintro pre A C ⟨h0, h1, h2, h3⟩ hs
                exact ⟨fun j hj hne => (hs.block _ (by omega) (.inl (by omega))).trans (h0 j hj hne), h1.block (hs.block _ (by omega) (.inl (by omega))), hs.below h2 (by omega) (by omega), Nat.le_trans h3 hs.size⟩
              case stopz14 => rintro D c pre W hD hS hf hK; exact hf.elim
              case bodyz14 =>
                rintro l pre y W hpf hWz ⟨h0, h1, h2, h3⟩
                have HX8 : Hid (W.heap[w3.heap.size + 1]? = some (.cells #[.map (some w3.heap.size)] 66 (0, 0))) := (h0 (w3.heap.size + 1) (by omega) (by omega)).trans HX6.out
                have c0 := cell_of_one HX8.out
                have H0' := Lib.hid h0; have H1 := Lib.hid h1; have H2 := Lib.hid h2
                have hpl := hpf.len HU2.out
                have hys : y.1.size ≤ maxLen := HUs.out y.1 ((hpf.sound y.1 (by simp)).mem HU2.out)
                have HUl' := HUl.out
                obtain ⟨y, ky⟩ := y
                simp only [List.length_append, List.length_cons, List.length_nil] at hpl
                simp only at hys
                clear h0 h1 h2 g0 hnx hpf
                gi_wp2_with (gi_at_mapUpdate; refine halt_ ?_)
                refine unhalt ?_
                refine wpListIn_put_rm rfl _ _ _ 66 rfl 9 4 Tryz.underlying9 Tryz.underlying66 w3.heap.size (N + 1 + pre.length) _ rfl H1.out (by unfold maxLen; omega) y hys _ rfl rfl ?_
                intro w8 hM8 hg8
                replace hM8 : Rm w8 Tryz.prog 9 w3.heap.size (N + 1 + pre.length + 1) (upd (pG (al ++ [lab] ++ pre.map Prod.fst)) y (.bool true)) := hM8
                rw [← pG_snoc] at hM8
                have HM8 : Hid (Rm w8 Tryz.prog 9 w3.heap.size (N + 1 + (pre ++ [(y, ky)]).length) (pG (al ++ [lab] ++ (pre ++ [(y, ky)]).map Prod.fst))) := by
                  show Rm _ _ _ _ _ _
                  rw [List.length_append, List.map_append, ← List.append_assoc, ← Nat.add_assoc]
                  exact hM8
                have HG8 := Lib.hid hg8
                clear hM8 hg8
                gi_wp2
                refine ⟨⟨HG8.out.block _ (by omega) (by simp; omega), HG8.out.block _ (by omega) (by simp; omega)⟩, ⟨HG8.out.size, fun j hj hc => HG8.out.block j hj (fun e => ?_)⟩, fun j hj hne => (HG8.out.block j (by omega) (by simp; omega)).trans (H0'.out j hj hne), HM8.out, H2.out.grown HG8.out (by omega) (fun k e => by cases e; omega), Nat.le_trans h3 HG8.out.size⟩
                have e' : j = w3.heap.size := by injection e
                subst e'
                rcases hc with h | h | h
                · omega
                · obtain ⟨_, ⟨_, _, h1, _⟩, _⟩ := H1.out
                  rw [h1] at h; exact h
                · omega
              case donez14 =>
                rintro D xs W hD ⟨hgot, hS⟩ ⟨h0, h1, h2, h3⟩ hK
                have hpl := hgot.len HU2.out
                have HUl' := HUl.out
                have HKD := Lib.hid hK
                have HMF : Hid (∀ x, x ∈ al ++ [lab] ++ xs.map Prod.fst ↔ AffK ts ps (k + 1) x) := fun x => by
                  rw [AffK.hit HTT.out HH.out x, List.mem_append, List.mem_append, List.mem_singleton, hS x, rch_users HLu.out, hMe.out x, or_assoc]
                have HM9 := Lib.hid h1
                have HX9 : Hid (W.heap[w3.heap.size + 1]? = some (.cells #[.map (some w3.heap.size)] 66 (0, 0))) := (h0 (w3.heap.size + 1) (by omega) (by omega)).trans HX6.out
                have HB9 := Lib.hid h2
                have hM9 : Marks ds (w3.heap.size + 2) W := HMK6.out.keep fun E hE hb => h0 E (Array.getElem?_eq_some_iff.1 hb).1 (by omega)
                have HMK9 : Hid (Marks ({ target := .collected D, args := #[] } :: ds) (w3.heap.size + 2) W) := by
                  refine hM9.add hK (by omega) fun Ds e _ hmem => ?_
                  obtain ⟨Ds', e1, _, e3⟩ := HMK6.out
                  have hi : ∀ (a b : List Nat), (a.map (fun D => ({ target := .collected D, args := #[] } : Deferred))) = b.map (fun D => { target := .collected D, args := #[] }) → a = b := by
                    intro a
                    induction a with
                    | nil => intro b h; cases b with | nil => rfl | cons _ _ => cases h
                    | cons x a ih =>
                      intro b h
                      cases b with
                      | nil => cases h
                      | cons y b =>
                        simp only [List.map_cons, List.cons.injEq] at h
                        obtain ⟨h1, h2⟩ := h
                        injection h1 with h1 _
                        injection h1 with h1
                        rw [h1, ih b h2]
                  rw [e] at e1
                  have := hi _ _ e1
                  subst this
                  have hDlt := (Array.getElem?_eq_some_iff.1 (e3 D hmem).2).1
                  omega
                have hzW : w3.heap.size + 2 ≤ W.heap.size := by omega
                clear h0 h1 h2 hK hgot hS g0 hnx hM9
                gi_wp2
                refine ⟨?_, ?msz14⟩
                (repeat apply Exists.intro)
                refine ⟨?rlz14, rfl⟩
                case rlz14 => exact ⟨k + 1, N + 1 + xs.length, al ++ [lab] ++ xs.map Prod.fst, hlt, by go_num, by omega, HM9.out, HMF.out, HX9.out, HB9.out, HMK9.out, hzW⟩
                case msz14 => simp [intOf]; omega
            | false =>
              cases m2 : memB ps (bldS (dirS lab)) with
              | true =>
                rw [m1] at hl1
                rw [m2] at hl2
                have HH : Hid (hitB ps lab = true) := by show _ = _; unfold hitB; rw [m1, m2]; rfl
                clear m1 m2
                have HIX5 : Hid (W5.heap[w3.heap.size + 1]? = some (.cells #[.map (some w3.heap.size)] 66 (0, 0))) := (HBr5.out.block _ (by omega)).trans hX.out
                have b0 := cell_of_one HIX5.out
                have HM5 := Lib.hid (hM.out.below HBr5.out (by omega))
                have HMK5 := Lib.hid (hMk.out.below HBr5.out)
                have xx := HK5.out.cell 0
                simp at xx
                gi_wp2_with (first
                  | (gi_at_call 77; refine (callsIn_wide.2 HMO.out).mono ?_; rintro e w' ⟨rfl, rfl⟩)
                  | (gi_at_call 48; refine (callsIn_wide.2 HDI.out).mono ?_; rintro e w' ⟨rfl, rfl⟩)
                  | (gi_at_call 47; refine (callsIn_wide.2 HBU.out).mono ?_; rintro e w' ⟨rfl, rfl⟩)
                  | (gi_at_mapUpdate; refine halt_ ?_))
                refine unhalt ?_
                refine wpListIn_put_rm rfl _ _ _ 66 rfl 9 4 Tryz.underlying9 Tryz.underlying66 w3.heap.size N _ rfl HM5.out (by unfold maxLen; omega) lab hlm (.bool true) rfl rfl ?_
                intro w6 hM6 hg6
                replace hM6 : Rm w6 Tryz.prog 9 w3.heap.size (N + 1) (upd (pG al) lab (.bool true)) := hM6
                rw [← pG_snoc] at hM6
                have HM6 := Lib.hid hM6
                have HB6 : Hid (Below w3.heap.size w3 w6) := (hBel.out.trans (HBr5.out.mono (by omega))).grown hg6 (by omega) (fun q e => by cases e; omega)
                have HK6 : Hid (Bk w6 wm.heap.size 35 #[.string lab, .int .i64 kind, .slice dA dn dc, .slice vA vn vc]) := HK5.out.grown hg6 (by simp; omega)
                have HX6 := Lib.hid (one_grown HIX5.out hg6 (by simp))
                have HMK6 : Hid (Marks ds (w3.heap.size + 2) w6) := HMK5.out.keep fun D hD hb => hg6.block D (Array.getElem?_eq_some_iff.1 hb).1 (by simp; omega)
                have hz6 := hg6.size
                have x6 := HK6.out.cell 0
                simp at x6
                clear hM6 hg6 b0 xx x0 hl1 hl2
                gi_wp2_with (gi_at_call 65; refine (callsIn_wide.2 (reached_any _ _ _)).mono ?_; rintro e w' ⟨rfl, rfl⟩)
                have hnx : NxR ((w6.alloc (.cells #[.map (some (w2.heap.size + 1))] 81)).alloc (.cells #[.string lab] 9)) Tryz.prog 9 81 w3.heap.size (w6.heap.size + 1) w6.heap.size (w2.heap.size + 1) 2000000 lab gu (fun s => L (true, s)) :=
                  (HNU.out.below HB6.out (Nat.le_refl _)).boxed HB6.out.size lab
                obtain ⟨W7, hW7⟩ : ∃ W7, (w6.alloc (.cells #[.map (some (w2.heap.size + 1))] 81)).alloc (.cells #[.string lab] 9) = W7 := ⟨_, rfl⟩
                have hy7 : W7.heap.size = w6.heap.size + 2 := by rw [← hW7]; simp
                have hb67 : Below w6.heap.size w6 W7 := by rw [← hW7]; exact ((Below.refl _ w6).alloc (Nat.le_refl _) _).alloc (by simp) _
                have HB7 : Hid (Below w3.heap.size w3 W7) := HB6.out.trans (hb67.mono (by omega))
                have HK7 : Hid (∀ j, j < w6.heap.size → W7.heap[j]? = w6.heap[j]?) := fun j hj => hb67.block j hj
                have g0 : Rm W7 Tryz.prog 9 w3.heap.size (N + 1 + ([] : List (ByteArray × Nat)).length) (pG (al ++ [lab] ++ ([] : List (ByteArray × Nat)).map Prod.fst)) := by simpa using HM6.out.below hb67 (by omega)
                rw [hW7] at hnx ⊢
                clear hW7 hb67
                refine wpIn_rangeT (α := ByteArray × Nat) (F := Fence.wide) (n := 6) rfl (by omega) (gf := 108) (lb := #[.pointer (some ⟨w6.heap.size + 1, 0, none⟩), .pointer (some ⟨w6.heap.size, 0, none⟩)]) rfl trivial (enters_of Tryz.func108 (by kernel_rfl) rfl)
                  (reached_st 5 (by omega) w3.heap.size (w6.heap.size + 1) w6.heap.size (w2.heap.size + 1) 2000000 (W7.heap.size + 2) lab gu (fun s => L (true, s)) (ts.map Tg.lab) W7 hnx (by omega) (by omega) (by omega) (by omega) HU2.out HUl.out HUs.out hlm) KeepR.trans (fun W l r o' hl hlr => keepR_put W l r o' hlr (by omega) (by omega)) (fun A C h hA => stepR_rec h rfl hA) (Below.refl _ _) (fun _ => rfl)
                  (fun pre W => (∀ j, j < w6.heap.size → j ≠ w3.heap.size → W.heap[j]? = w6.heap[j]?) ∧ Rm W Tryz.prog 9 w3.heap.size (N + 1 + pre.length) (pG (al ++ [lab] ++ pre.map Prod.fst)) ∧ Below w3.heap.size w3 W ∧ w6.heap.size + 2 ≤ W.heap.size)
                  (fun _ _ _ => False)
                  ?hIz16 ?hIxz16 ?hISz16 ⟨fun j hj _ => HK7.out j hj, g0, HB7.out, by omega⟩ ?a1z16 ?assignz16 ?bodyz16 ?donez16 ?stopz16
                case assignz16 =>
                  intro l y W K hK
                  have HKK := Lib.hid hK
                  clear hK
                  gi_wp2
                  exact HKK.out
                case hIz16 =>
                  rintro pre A C row ⟨h0, h1, h2, h3⟩ hg hr
                  refine ⟨fun j hj hne => (hg.block j (by omega) (fun e => ?_)).trans (h0 j hj hne), h1.kept hg (fun e => ?_), h2.grown hg h2.size (fun k e => ?_), Nat.le_trans h3 hg.size⟩
                  · have := (hr _ e.symm).1; omega
                  · have := (hr _ e.symm).1; omega
                  · have := (hr _ e).1; omega
                case hIxz16 => rintro c pre A C row hf _ _; exact hf
                case hISz16 =>
                  rintro pre A C ⟨h0, h1, h2, h3⟩ hs
                  exact ⟨fun j hj hne => (hs.block _ (by omega) (.inl (by omega))).trans (h0 j hj hne), h1.block (hs.block _ (by omega) (.inl (by omega))), hs.below h2 (by omega) (by omega), Nat.le_trans h3 hs.size⟩
                case stopz16 => rintro D c pre W hD hS hf hK; exact hf.elim
                case bodyz16 =>
                  rintro l pre y W hpf hWz ⟨h0, h1, h2, h3⟩
                  have HX8 : Hid (W.heap[w3.heap.size + 1]? = some (.cells #[.map (some w3.heap.size)] 66 (0, 0))) := (h0 (w3.heap.size + 1) (by omega) (by omega)).trans HX6.out
                  have c0 := cell_of_one HX8.out
                  have H0' := Lib.hid h0; have H1 := Lib.hid h1; have H2 := Lib.hid h2
                  have hpl := hpf.len HU2.out
                  have hys : y.1.size ≤ maxLen := HUs.out y.1 ((hpf.sound y.1 (by simp)).mem HU2.out)
                  have HUl' := HUl.out
                  obtain ⟨y, ky⟩ := y
                  simp only [List.length_append, List.length_cons, List.length_nil] at hpl
                  simp only at hys
                  clear h0 h1 h2 g0 hnx hpf
                  gi_wp2_with (gi_at_mapUpdate; refine halt_ ?_)
                  refine unhalt ?_
                  refine wpListIn_put_rm rfl _ _ _ 66 rfl 9 4 Tryz.underlying9 Tryz.underlying66 w3.heap.size (N + 1 + pre.length) _ rfl H1.out (by unfold maxLen; omega) y hys _ rfl rfl ?_
                  intro w8 hM8 hg8
                  replace hM8 : Rm w8 Tryz.prog 9 w3.heap.size (N + 1 + pre.length + 1) (upd (pG (al ++ [lab] ++ pre.map Prod.fst)) y (.bool true)) := hM8
                  rw [← pG_snoc] at hM8
                  have HM8 : Hid (Rm w8 Tryz.prog 9 w3.heap.size (N + 1 + (pre ++ [(y, ky)]).length) (pG (al ++ [lab] ++ (pre ++ [(y, ky)]).map Prod.fst))) := by
                    show Rm _ _ _ _ _ _
                    rw [List.length_append, List.map_append, ← List.append_assoc, ← Nat.add_assoc]
                    exact hM8
                  have HG8 := Lib.hid hg8
                  clear hM8 hg8
                  gi_wp2
                  refine ⟨⟨HG8.out.block _ (by omega) (by simp; omega), HG8.out.block _ (by omega) (by simp; omega)⟩, ⟨HG8.out.size, fun j hj hc => HG8.out.block j hj (fun e => ?_)⟩, fun j hj hne => (HG8.out.block j (by omega) (by simp; omega)).trans (H0'.out j hj hne), HM8.out, H2.out.grown HG8.out (by omega) (fun k e => by cases e; omega), Nat.le_trans h3 HG8.out.size⟩
                  have e' : j = w3.heap.size := by injection e
                  subst e'
                  rcases hc with h | h | h
                  · omega
                  · obtain ⟨_, ⟨_, _, h1, _⟩, _⟩ := H1.out
                    rw [h1] at h; exact h
                  · omega
                case donez16 =>
                  rintro D xs W hD ⟨hgot, hS⟩ ⟨h0, h1, h2, h3⟩ hK
                  have hpl := hgot.len HU2.out
                  have HUl' := HUl.out
                  have HKD := Lib.hid hK
                  have HMF : Hid (∀ x, x ∈ al ++ [lab] ++ xs.map Prod.fst ↔ AffK ts ps (k + 1) x) := fun x => by
                    rw [AffK.hit HTT.out HH.out x, List.mem_append, List.mem_append, List.mem_singleton, hS x, rch_users HLu.out, hMe.out x, or_assoc]
                  have HM9 := Lib.hid h1
                  have HX9 : Hid (W.heap[w3.heap.size + 1]? = some (.cells #[.map (some w3.heap.size)] 66 (0, 0))) := (h0 (w3.heap.size + 1) (by omega) (by omega)).trans HX6.out
                  have HB9 := Lib.hid h2
                  have hM9 : Marks ds (w3.heap.size + 2) W := HMK6.out.keep fun E hE hb => h0 E (Array.getElem?_eq_some_iff.1 hb).1 (by omega)
                  have HMK9 : Hid (Marks ({ target := .collected D, args := #[] } :: ds) (w3.heap.size + 2) W) := by
                    refine hM9.add hK (by omega) fun Ds e _ hmem => ?_
                    obtain ⟨Ds', e1, _, e3⟩ := HMK6.out
                    have hi : ∀ (a b : List Nat), (a.map (fun D => ({ target := .collected D, args := #[] } : Deferred))) = b.map (fun D => { target := .collected D, args := #[] }) → a = b := by
                      intro a
                      induction a with
                      | nil => intro b h; cases b with | nil => rfl | cons _ _ => cases h
                      | cons x a ih =>
                        intro b h
                        cases b with
                        | nil => cases h
                        | cons y b =>
                          simp only [List.map_cons, List.cons.injEq] at h
                          obtain ⟨h1, h2⟩ := h
                          injection h1 with h1 _
                          injection h1 with h1
                          rw [h1, ih b h2]
                    rw [e] at e1
                    have := hi _ _ e1
                    subst this
                    have hDlt := (Array.getElem?_eq_some_iff.1 (e3 D hmem).2).1
                    omega
                  have hzW : w3.heap.size + 2 ≤ W.heap.size := by omega
                  clear h0 h1 h2 hK hgot hS g0 hnx hM9
                  gi_wp2
                  refine ⟨?_, ?msz16⟩
                  (repeat apply Exists.intro)
                  refine ⟨?rlz16, rfl⟩
                  case rlz16 => exact ⟨k + 1, N + 1 + xs.length, al ++ [lab] ++ xs.map Prod.fst, hlt, by go_num, by omega, HM9.out, HMF.out, HX9.out, HB9.out, HMK9.out, hzW⟩
                  case msz16 => simp [intOf]; omega
              | false =>
                have HH : Hid (hitB ps lab = false) := by show _ = _; unfold hitB; rw [m1, m2]; rfl
                rw [m1] at hl1
                rw [m2] at hl2
                clear m1 m2
                gi_wp2_with (first
                  | (gi_at_call 77; refine (callsIn_wide.2 HMO.out).mono ?_; rintro e w' ⟨rfl, rfl⟩)
                  | (gi_at_call 48; refine (callsIn_wide.2 HDI.out).mono ?_; rintro e w' ⟨rfl, rfl⟩)
                  | (gi_at_call 47; refine (callsIn_wide.2 HBU.out).mono ?_; rintro e w' ⟨rfl, rfl⟩))
                refine ⟨?_, ?ms3⟩
                (repeat apply Exists.intro)
                refine ⟨?rl3, rfl⟩
                case rl3 => exact ⟨k + 1, N, al, hlt, by go_num, by omega, hM.out.below HBr5.out (by omega), fun x => by rw [AffK.miss HTT.out HH.out x]; exact hMe.out x, (HBr5.out.block _ (by omega)).trans hX.out, hBel.out.trans (HBr5.out.mono (by omega)), hMk.out.below HBr5.out, by omega⟩
                case ms3 => simp [intOf]; omega
          · have hlz : ¬ (k : Int) < (n : Int) := by omega
            have HAL : Hid (∀ x, x ∈ al ↔ AffK ts ps ts.length x) := by
              have h1 := hMe.out
              rw [show k = ts.length from by rw [HTL.out]; omega] at h1
              exact h1
            have HGe := Lib.hid (HG3.out.below hBel.out (by omega))
            have ge := HGe.out.cell 0
            simp at ge
            have HXe := Lib.hid hX.out
            have HMe := Lib.hid hM.out
            have HBe := Lib.hid hBel.out
            have HMKe := Lib.hid hMk.out
            obtain ⟨we, hwe⟩ : ∃ we, we = wm := ⟨_, rfl⟩
            subst hwe
            obtain ⟨i0, hi, hz0, hz1', hz2'⟩ := info_parts infoStr'
            have Hi := Lib.hid hi; have Hz0 := Lib.hid hz0; have Hz1 := Lib.hid hz1'; have Hz2 := Lib.hid hz2'
            clear hi hz0 hz1' hz2' hM hX hBel hMk hMe g0
            gi_wp2
            gi_loopw [14, 75] (fun q i wr => ∃ (j m : Nat) (A5 : Option Addr) (c5 : Nat) (l : List ByteArray), j ≤ n ∧ i = .int .i64 j ∧ q = .slice A5 m c5 ∧ m ≤ j ∧ m ≤ c5 ∧ c5 ≤ maxLen ∧ Hid (wr.ownsRow we.heap.size 9 1 (.slice A5 m c5) m (strs l)) ∧ Hid (l = ((ts.take j).map Tg.lab).filter (memB al)) ∧ Hid (Below we.heap.size we wr)) (fun _ i _ => n - (intOf i).toNat)
            case atStart => exact ⟨0, 0, none, 0, [], Nat.zero_le _, rfl, rfl, Nat.le_refl _, Nat.le_refl _, Nat.zero_le _, World.ownsRow_nil _ _ _ _, rfl, Below.refl _ _⟩
            case round =>
              obtain ⟨j, m, A5, c5, l, hj, rfl, rfl, hmj, hmc, hcm5, hA, hl, hBi⟩ := hrel
              have hwi := hBi.out.size
              by_cases hjn : j < n
              · have HBw2 : Hid (Below w.heap.size w wr) := (HB3.out.trans (HBe.out.mono (by omega))).trans (hBi.out.mono (by omega))
                obtain ⟨b, off, t, rfl, hbB, ht, y0, y1, y2, y3⟩ := (H0.out.below HBw2.out hB).tg hjn
                have hjz : (j : Int) < (n : Int) := by omega
                have HT := Lib.hid ht
                have hls : t.lab.size ≤ 90 := lab_size (HVL.out.at_ ht).lab
                have hlm : t.lab.size ≤ maxLen := by unfold maxLen; omega
                obtain ⟨W5, hW5⟩ : ∃ W5, wr.alloc (.cells #[.string t.lab, .int .i64 t.kind, .slice t.dA t.dn t.dc, .slice t.vA t.vn t.vc] 35) = W5 := ⟨_, rfl⟩
                have HK5 : Hid (Bk W5 wr.heap.size 35 #[.string t.lab, .int .i64 t.kind, .slice t.dA t.dn t.dc, .slice t.vA t.vn t.vc]) := by rw [← hW5]; exact Bk.new wr _ _
                have zW5 : W5.heap.size = wr.heap.size + 1 := by rw [← hW5]; simp
                have HBr5 : Hid (Below wr.heap.size wr W5) := by rw [← hW5]; exact (Below.refl _ wr).alloc (Nat.le_refl _) _
                have HBe5 : Hid (Below we.heap.size we W5) := hBi.out.trans (HBr5.out.mono hwi)
                have HM5 := Lib.hid (HMe.out.below HBe5.out (by omega))
                have HX5 : Hid (W5.heap[w3.heap.size + 1]? = some (.cells #[.map (some w3.heap.size)] 66 (0, 0))) := (HBe5.out.block _ (by omega)).trans HXe.out
                have HA5 : Hid (W5.ownsRow we.heap.size 9 1 (.slice A5 m c5) m (strs l)) := own_keep hA.out (fun q hq => HBr5.out.block q (Array.getElem?_eq_some_iff.1 (own_row hA.out hq).2.choose_spec).1)
                have b0 := cell_of_one HX5.out
                have HSN : Hid (((ts.take (j + 1)).map Tg.lab).filter (memB al) = ((ts.take j).map Tg.lab).filter (memB al) ++ (if memB al t.lab then [t.lab] else [])) := by
                  show _ = _
                  rw [take_snoc ht, List.map_append, List.filter_append]
                  simp [List.filter_cons]
                obtain ⟨lab, kind, dA, dn, dc, deps, vA, vn, vc, vis⟩ := t
                simp only at y0 y1 y2 y3 hls hlm hW5 HK5 HSN
                have hlk := HM5.out.look Tryz.underlying9 Tryz.underlying66 (hzz _) hlm
                rw [pG_get] at hlk
                have x0 := HK5.out.cell 0
                simp at x0
                clear ht
                cases hm : memB al lab with
                | false =>
                  have HL2 : Hid (l = ((ts.take (j + 1)).map Tg.lab).filter (memB al)) := by show _ = _; rw [HSN.out, hm, hl.out]; simp
                  rw [hm] at hlk
                  clear hm
                  gi_wp2
                  go_roundw
                  case rel => exact ⟨j + 1, m, A5, c5, l, hjn, by go_num, rfl, by omega, hmc, hcm5, HA5.out, HL2.out, HBe5.out⟩
                  case measure => simp [intOf]; omega
                | true =>
                  have HL2 : Hid (l ++ [lab] = ((ts.take (j + 1)).map Tg.lab).filter (memB al)) := by show _ = _; rw [HSN.out, hm, hl.out]; simp
                  rw [hm] at hlk
                  clear hm
                  gi_wp2_with (gi_at_builtin; refine halt_ ?_)
                  refine unhalt ?_
                  refine wpListIn_append_sl (base := we.heap.size) (size := 1) rfl (.tmp 83) (.tmp 86) 33 rfl 9 i0 _ 16 Tryz.underlying33 Hi.out Hz0.out Hz1.out Hz2.out rfl (by decide) (.slice A5 m c5) m (strs l) rfl ?own (W5.heap.size + 1) _ 1 _ [.string lab] rfl ?nw (by simp [Value.oneCell']) ?l1 ?l2 ?l3 ?_
                  case own => exact HA5.out.kept (World.grownBy_alloc W5 _ none) (by cases hv : (Value.slice A5 m c5).ownBlock with | none => exact .inl rfl | some q => exact .inr (by simp))
                  case nw => exact ⟨rfl, fun _ => ⟨wr.heap.size + 1, 0, rfl, by omega, fun j u hu => by have := new_cell W5 9 lab j u hu; rw [zW5] at this; rwa [Addr.add_lit] at this⟩⟩
                  case l1 => unfold maxLen; omega
                  case l2 => omega
                  case l3 => simp; omega
                  intro A6 c6 w6 ho6 hg6 hc61 hc62
                  have HO6 : Hid (w6.ownsRow we.heap.size 9 1 (.slice A6 (m + 1) c6) (m + 1) (strs (l ++ [lab]))) := by
                    show World.ownsRow _ _ _ _ _ _ _
                    rw [strs_sn]; exact ho6
                  have HB6 : Hid (Below we.heap.size we w6) := (HBe5.out.alloc HBe5.out.size _).grown hg6 (by have := HBe5.out.size; simp; omega) (fun q hq => ownBlock_ge HA5.out q hq)
                  clear ho6 hg6 b0 x0 hlk
                  gi_wp2
                  go_roundw
                  case rel => exact ⟨j + 1, m + 1, A6, c6, l ++ [lab], hjn, by go_num, rfl, by omega, hc61, hc62, HO6.out, HL2.out, HB6.out⟩
                  case measure => simp [intOf]; omega
              · have hjz : ¬ (j : Int) < (n : Int) := by omega
                have HLF : Hid (AffR ts ps l) := by
                  refine .inr ⟨HVL.out, ?_, fun x => ?_⟩
                  · rw [hl.out, List.take_of_length_le (by rw [HTL.out]; omega)]
                    exact List.Pairwise.sublist List.filter_sublist HVL.out.asc
                  · rw [hl.out, List.take_of_length_le (by rw [HTL.out]; omega), List.mem_filter, memB_iff, HAL.out x]
                    exact ⟨fun h => h.2, fun h => ⟨(isT_iff ts x).1 h.isT, h⟩⟩
                have hMKf : Marks ds (w3.heap.size + 2) wr := HMKe.out.below hBi.out
                obtain ⟨Ds, hds1, hds2, hds3⟩ := hMKf
                have HBf : Hid (Below w.heap.size w wr) := (HB3.out.trans (HBe.out.mono (by omega))).trans (hBi.out.mono (by omega))
                have HD3 := Lib.hid hds3
                have HDE := Lib.hid hds1
                have HDN := Lib.hid hds2
                clear hds1 hds2 hds3
                gi_wp2
                show LeavesInM Fence.wide 6 Tryz.prog Tryz.f37 _ _ ds .returning wr
                rw [HDE.out]
                refine leaves_marks Ds wr HDN.out HD3.out fun w' k1 k2 k3 k4 k5 k6 => ?_
                refine ⟨_, resultsAff rfl, A5, m, c5, l, rfl, Sl.of_own (own_keep hA.out fun q hq => k2 q fun D hD e => ?_), hmc, hcm5, HLF.out, ⟨k4.trans HBf.out.os, k5.trans HBf.out.tape, k6.trans HBf.out.output, by rw [k3]; exact HBf.out.size, fun q hq => (k1 q (by have := HB3.out.size; omega)).trans (HBf.out.block q hq)⟩⟩
                subst e
                obtain ⟨_, cur, h6⟩ := own_row hA.out hq
                rw [(HD3.out q hD).2] at h6; cases h6
end Go.Proofs.YtddlohbhchjjhaaGreatDoor

namespace Go.Proofs.YtddlohbhchjjhaaGreatDoor
open Go.RowKit

theorem Sl.boxed {w : World} {size n : Nat} {A : Option Addr} {xs : List Value} (h : Sl w w.heap.size size A n xs) (o : Obj) : Sl (w.alloc o) (w.alloc o).heap.size size A n xs := (h.alloc (Nat.le_refl _) o).more (by simp)
theorem Sl.on {w w' : World} {size n : Nat} {A : Option Addr} {xs : List Value} (h : Sl w w.heap.size size A n xs) (hb : Below w.heap.size w w') : Sl w' w'.heap.size size A n xs := (h.below hb (Nat.le_refl _)).more hb.size
theorem Sl.of_bk {w : World} {b size n : Nat} {t : TypeId} {cs : Array Value} (h : Bk w b t cs) (hl : cs.size = n * size) : Sl w w.heap.size size (some ⟨b, 0, none⟩) n cs.toList :=
  ⟨by simpa using hl, fun _ => ⟨b, 0, rfl, h.lt, fun j u hu => by rw [Nat.zero_add, h.cell]; simpa using hu⟩⟩
set_option maxRecDepth 100000 in
set_option maxHeartbeats 1000000 in
theorem equal_any (A0 A1 : Option Addr) (n0 c0 n1 c1 B : Nat) (rs qs : List ByteArray) (w : World) (h0 : Sl w B 1 A0 n0 (strs rs)) (h1 : Sl w B 1 A1 n1 (strs qs)) (m0 : n0 ≤ maxLen) :
    Calls Tryz.prog 45 #[.slice A0 n0 c0, .slice A1 n1 c1] w fun e w' => e = .returned (.bool (decide (rs = qs))) ∧ ∃ k, w' = w.drewN k := by
  unfold maxLen at m0
  have HL0 : Hid (rs.length = n0) := by have := h0.1; rw [strs_len] at this; show _ = _; omega
  have HL1 : Hid (qs.length = n1) := by have := h1.1; rw [strs_len] at this; show _ = _; omega
  have H0 := Lib.hid h0; have H1 := Lib.hid h1; clear h0 h1
  have hM : Hid (decide (rs = qs) = true ↔ rs = qs) := decide_eq_true_iff
  generalize decide (rs = qs) = mb at *
  by_cases hn : n0 = n1
  · subst hn
    go_enter Tryz.func45, Tryz.ntmps45
    go_wp2
    go_loopw [13] (fun i wr => ∃ k nq : Nat, k ≤ n0 ∧ i = .int .i64 k ∧ wr = w.drewN nq ∧ Hid (rs.take k = qs.take k)) (fun i _ => n0 - (intOf i).toNat)
    case atStart => exact ⟨0, 0, Nat.zero_le _, rfl, rfl, rfl⟩
    case round =>
      obtain ⟨k, nq, hk, rfl, rfl, heq⟩ := hrel
      by_cases hlt : k < n0
      · obtain ⟨b0, o0, r, rfl, _, hr, x0⟩ := H0.out.str_at hlt
        obtain ⟨b1, o1, q, rfl, _, hq, y0⟩ := H1.out.str_at hlt
        have HR := Lib.hid hr; have HQ := Lib.hid hq; clear hr hq
        have hlz : (k : Int) < (n0 : Int) := by omega
        have hse := str_dec r q
        by_cases e : r = q
        · rw [decide_eq_true e] at hse
          have HE := Lib.hid e; clear e
          have hnx : Hid (rs.take (k + 1) = qs.take (k + 1)) := by
            show _ = _
            rw [take_snoc HR.out, take_snoc HQ.out, heq.out, HE.out]
          go_wp2
          go_quiet (fail)
          go_wp2
          go_roundw
          case rel => exact ⟨k + 1, _, by omega, by go_num, rfl, hnx⟩
          case measure => simp [intOf]; omega
        · rw [decide_eq_false e] at hse
          have HE := Lib.hid e; clear e
          go_wp2
          go_quiet (fail)
          go_wp2
          go_ret
          refine ⟨ret_bool ?_, ⟨_, World.drewN_drewN _ _ _⟩⟩
          symm
          rw [Bool.eq_false_iff]
          intro hh
          have := hM.out.1 hh
          subst this
          exact HE.out (Option.some.inj (HR.out.symm.trans HQ.out))
      · have hall : Hid (mb = true) := by
          have := heq.out
          rw [List.take_of_length_le (by rw [HL0.out]; omega), List.take_of_length_le (by rw [HL1.out]; omega)] at this
          exact hM.out.2 this
        have hlz : ¬ (k : Int) < (n0 : Int) := by omega
        go_wp2
        go_ret
        exact ⟨ret_bool hall.out.symm, _, rfl⟩
  · have hne : ((n0 : Int) != (n1 : Int)) = true := by rw [bne_iff_ne]; omega
    go_enter Tryz.func45, Tryz.ntmps45
    go_wp2
    go_ret
    refine ⟨ret_bool ?_, 0, rfl⟩
    symm
    rw [Bool.eq_false_iff]
    intro hh
    have := hM.out.1 hh
    subst this
    exact hn (HL0.out.symm.trans HL1.out)

end Go.Proofs.YtddlohbhchjjhaaGreatDoor

namespace Go.Proofs.YtddlohbhchjjhaaGreatDoor
open Go.RowKit Go.Maps

def LawEnd (w : World) (e : Ending) (w' : World) : Prop := e = .returned (.bool true) ∧ Below w.heap.size w w'
set_option maxRecDepth 100000 in
set_option maxHeartbeats 4000000 in
theorem awake_any (w : World) : Calls Tryz.prog 12 #[] w (LawEnd w) := by
  go_enter Tryz.func12, Tryz.ntmps12
  go_wp2_with fail
  obtain ⟨W1, hW1⟩ : ∃ W, w.alloc (.cells #[.string buildW, .string awkD, .string paW, .string ⟨#[]⟩, .string pbW, .string ⟨#[]⟩] 42) = W := ⟨_, rfl⟩
  unfold buildW awkD paW pbW at hW1
  rw [hW1]
  have HB1 : Hid (Below w.heap.size w W1) := by rw [← hW1]; exact (Below.refl _ w).alloc (Nat.le_refl _) _
  have k1 : Bk W1 w.heap.size 42 #[.string buildW, .string awkD, .string paW, .string ⟨#[]⟩, .string pbW, .string ⟨#[]⟩] := by rw [← hW1]; exact Bk.new w _ _
  have HL := Lib.hid (load_any (some ⟨w.heap.size, 0, none⟩) 3 3 W1.heap.size awkF W1 (Sl.of_bk k1 rfl) (Nat.le_refl _) (by decide) (by decide))
  clear k1 hW1
  refine HL.out.mono ?_
  rintro e w2 ⟨A, m, c, rs, wh, err, rfl, hs, hx, hmc, hcm, hl, hb⟩
  obtain ⟨h1, rfl, rfl⟩ := hl.uniq awk_ldr
  obtain ⟨a, b, c', d, rfl⟩ := ct_two h1
  have HB2 : Hid (Below w.heap.size w w2) := HB1.out.trans (hb.mono HB1.out.size)
  have HS2 := Lib.hid hs; have HX2 := Lib.hid hx
  clear hs hx hl hb h1 HL HB1
  go_wp2_with fail
  obtain ⟨W3, hW3⟩ : ∃ W, w2.alloc (.cells #[.slice A m c] 27) = W := ⟨_, rfl⟩
  rw [hW3]
  have zb2 := HB2.out.size
  have HB3 : Hid (Below w.heap.size w W3) := by rw [← hW3]; exact HB2.out.alloc (by omega) _
  have hb23 : Below w2.heap.size w2 W3 := by rw [← hW3]; exact (Below.refl _ w2).alloc (Nat.le_refl _) _
  have HG3 : Hid (Bk W3 w2.heap.size 27 #[.slice A m c]) := by rw [← hW3]; exact Bk.new w2 _ _
  have HS3 := Lib.hid (HS2.out.below hb23 (Nat.le_refl _))
  have HX3 : Hid (∀ t ∈ [tgA a b, tgB c' d], TgOk W3 w2.heap.size t) := fun t ht => (HX2.out t ht).below hb23 (Nat.le_refl _)
  have u0 := HG3.out.cell 0
  simp at u0
  have zg : w2.heap.size < W3.heap.size := HG3.out.lt
  clear hb23 HB2 HS2 HX2 hW3
  have HO := Lib.hid (order_any A m c w2.heap.size [tgA a b, tgB c' d] W3 HS3.out HX3.out (by omega) hmc hcm)
  go_wp2_with fail
  refine HO.out.mono ?_
  rintro e w4 ⟨A4, m4, c4, l4, e4, rfl, hs, hm, hc, hr, hb⟩
  obtain ⟨rfl, rfl⟩ := awk1 hr
  have HB34 := Lib.hid hb
  have HB4 : Hid (Below w.heap.size w w4) := HB3.out.trans (hb.mono HB3.out.size)
  have HG4 := Lib.hid (HG3.out.below hb zg)
  have S4 := Lib.hid hs; have M4 := Lib.hid (Nat.le_trans hm hc)
  clear hs hm hc hr u0 HO HB3 HG3
  have u0 := HG4.out.cell 0
  simp at u0
  have z4 := hb.size
  have HD := Lib.hid (deps_any A m c w2.heap.size [tgA a b, tgB c' d] lB w4 (HS3.out.below hb (by omega)) (fun t ht => (HX3.out t ht).below hb (by omega)) (by omega) hmc hcm (by decide))
  unfold lB at HD
  clear hb
  go_wp2_with fail
  refine HD.out.mono ?_
  rintro e w5 ⟨A5, m5, c5, l5, e5, rfl, hs, hm, hc, hb, hr⟩
  obtain ⟨rfl, rfl⟩ := awk2 hr
  have HB35 : Hid (Below W3.heap.size W3 w5) := HB34.out.trans (hb.mono z4)
  have HB5 : Hid (Below w.heap.size w w5) := HB4.out.trans (hb.mono HB4.out.size)
  have HG5 := Lib.hid (HG4.out.below hb (by omega))
  have S45 := Lib.hid (S4.out.on hb)
  have S5 := Lib.hid hs; have M5 := Lib.hid (Nat.le_trans hm hc)
  have z5 := hb.size
  clear hs hm hc hr hb u0 HD HB34 HB4 HG4 S4
  have u0 := HG5.out.cell 0
  simp at u0
  go_wp2_with fail
  have q1 := Sl.of_bk (Bk.new w5 9 #[.string ⟨#[97]⟩, .string ⟨#[98]⟩]) (n := 2) (size := 1) rfl
  refine (equal_any A4 _ m4 c4 2 2 _ [lA, lB] [lA, lB] _ (S45.out.boxed _) q1 M4.out).mono ?_
  rintro e w6 ⟨rfl, k6, rfl⟩
  rw [decide_eq_true rfl]
  obtain ⟨w6, hw6⟩ : ∃ W, (w5.alloc (.cells #[.string ⟨#[97]⟩, .string ⟨#[98]⟩] 9)).drewN k6 = W := ⟨_, rfl⟩
  have hb56 : Below w5.heap.size w5 w6 := by rw [← hw6]; exact below_drewN ((Below.refl _ w5).alloc (Nat.le_refl _) _) k6
  rw [hw6]
  have HB6 : Hid (Below w.heap.size w w6) := HB5.out.trans (hb56.mono HB5.out.size)
  have HB36 : Hid (Below W3.heap.size W3 w6) := HB35.out.trans (hb56.mono (by omega))
  have HG6 := Lib.hid (HG5.out.below hb56 (by omega))
  have S56 := Lib.hid (S5.out.on hb56)
  have z6 := hb56.size
  clear q1 S45 S5 HB35 HB5 HG5 hb56 hw6 u0
  have u0 := HG6.out.cell 0
  simp at u0
  go_wp2_with fail
  have q1 := Sl.of_bk (Bk.new w6 9 #[.string ⟨#[97]⟩]) (n := 1) (size := 1) rfl
  refine (equal_any A5 _ m5 c5 1 1 _ [lA] [lA] _ (S56.out.boxed _) q1 M5.out).mono ?_
  rintro e w7 ⟨rfl, k7, rfl⟩
  rw [decide_eq_true rfl]
  obtain ⟨w7, hw7⟩ : ∃ W, (w6.alloc (.cells #[.string ⟨#[97]⟩] 9)).drewN k7 = W := ⟨_, rfl⟩
  have hb67 : Below w6.heap.size w6 w7 := by rw [← hw7]; exact below_drewN ((Below.refl _ w6).alloc (Nat.le_refl _) _) k7
  rw [hw7]
  have HB7 : Hid (Below w.heap.size w w7) := HB6.out.trans (hb67.mono HB6.out.size)
  have HB37 : Hid (Below W3.heap.size W3 w7) := HB36.out.trans (hb67.mono (by omega))
  have HG7 := Lib.hid (HG6.out.below hb67 (by omega))
  have z7 := hb67.size
  clear q1 S56 HB36 HB6 HG6 hb67 hw7 u0
  have u0 := HG7.out.cell 0
  simp at u0
  obtain ⟨W8, hW8⟩ : ∃ W, w7.alloc (.cells #[.string ⟨#[97, 46, 112, 107]⟩] 9) = W := ⟨_, rfl⟩
  have hb78 : Below w7.heap.size w7 W8 := by rw [← hW8]; exact (Below.refl _ w7).alloc (Nat.le_refl _) _
  have k8 : Bk W8 w7.heap.size 9 #[.string paW] := by rw [← hW8]; exact Bk.new w7 _ _
  have z8 := hb78.size
  have HB38 : Hid (Below W3.heap.size W3 W8) := HB37.out.trans (hb78.mono (by omega))
  have HB8 : Hid (Below w.heap.size w W8) := HB7.out.trans (hb78.mono HB7.out.size)
  have HA := Lib.hid (affected_any A m c W8.heap.size [tgA a b, tgB c' d] (some ⟨w7.heap.size, 0, none⟩) 1 1 [paW] W8 ((HS3.out.below HB38.out (by omega)).more (by omega)) (fun t ht => by have h := (HX3.out t ht).below HB38.out (by omega); exact ⟨h.d.more (by omega), h.dle, h.dmax, h.v.more (by omega), h.vle, h.vmax, h.ls, h.ds, h.vs⟩) (Sl.of_bk k8 rfl) (Nat.le_refl _) hmc hcm (by decide) (by decide))
  have HW8 := Lib.hid hW8
  clear k8 hb78 hW8 HB37 HB7 HG7 HS3 HX3
  go_wp2_with fail
  rw [HW8.out]
  refine HA.out.mono ?_
  rintro e w9 ⟨A9, m9, c9, l9, rfl, hs, hm, hc, hr, hb⟩
  obtain rfl := awk3 hr
  have HB9 : Hid (Below w.heap.size w w9) := HB8.out.trans (hb.mono HB8.out.size)
  have S9 := Lib.hid hs; have M9 := Lib.hid (Nat.le_trans hm hc)
  have z9 := hb.size
  clear hs hm hc hr hb HA HB8 HB38 u0
  go_wp2_with fail
  have q1 := Sl.of_bk (Bk.new w9 9 #[.string ⟨#[97]⟩, .string ⟨#[98]⟩]) (n := 2) (size := 1) rfl
  refine (equal_any A9 _ m9 c9 2 2 _ [lA, lB] [lA, lB] _ (S9.out.boxed _) q1 M9.out).mono ?_
  rintro e w10 ⟨rfl, k10, rfl⟩
  rw [decide_eq_true rfl]
  have HB10 : Hid (Below w.heap.size w ((w9.alloc (.cells #[.string ⟨#[97]⟩, .string ⟨#[98]⟩] 9)).drewN k10)) := below_drewN (HB9.out.alloc (by omega) _) k10
  clear q1
  go_wp2_with fail
  go_ret
  exact ⟨rfl, HB10.out⟩
end Go.Proofs.YtddlohbhchjjhaaGreatDoor

namespace Go.Proofs.YtddlohbhchjjhaaGreatDoor
open Go.RowKit

end Go.Proofs.YtddlohbhchjjhaaGreatDoor

namespace Go.Proofs.YtddlohbhchjjhaaGreatDoor
open Go.RowKit Go.Maps

theorem findT_app : ∀ (a b : List Tg) (s : ByteArray), findT (a ++ b) s = match findT a s with | some x => some x | none => findT b s
  | [], b, s => by simp [findT]
  | r :: a, b, s => by
    simp only [List.cons_append, findT]
    by_cases e : r.lab = s
    · simp [e]
    · rw [if_neg e, if_neg e, findT_app a b s]
theorem findT_here {ts : List Tg} {s : ByteArray} {k : Nat} {t : Tg} (h : findT (ts.take k) s = none) (ht : ts[k]? = some t) (hs : t.lab = s) : findT ts s = some t := by
  have hk := List.getElem?_eq_some_iff.1 ht
  have e : ts = ts.take k ++ t :: ts.drop (k + 1) := by
    rw [← hk.2, List.getElem_cons_drop, List.take_append_drop]
  rw [e, findT_app, h]
  simp [findT, hs]
theorem findT_pass {ts : List Tg} {s : ByteArray} {k : Nat} {t : Tg} (h : findT (ts.take k) s = none) (ht : ts[k]? = some t) (hs : t.lab ≠ s) : findT (ts.take (k + 1)) s = none := by
  rw [take_snoc ht, findT_snoc, h]; simp [hs]
def InxEnd (ts : List Tg) (lab : ByteArray) (w : World) (e : Ending) (w' : World) : Prop :=
  ∃ z : Int, e = .returned (.int .i64 z) ∧ ((∃ (k : Nat) (t : Tg), z = (k : Int) ∧ ts[k]? = some t ∧ findT ts lab = some t) ∨ (z = -1 ∧ findT ts lab = none)) ∧ Below w.heap.size w w'

set_option maxHeartbeats 400000 in
theorem bds1_any (t : Tg) (lab : ByteArray) (b : Nat) (w : World) (hc : w.cell? ⟨b, 0, none⟩ = some (.string lab)) (hb : b < w.heap.size) :
    Calls Tryz.prog 40 #[tgV t, .pointer (some ⟨b, 0, none⟩)] w fun e w' => e = .returned (.bool (decide (t.lab = lab))) ∧ Below w.heap.size w w' := by
  obtain ⟨tl, kind, dA, dn, dc, deps, vA, vn, vc, vis⟩ := t
  have HB0 : Hid (Below w.heap.size w (w.alloc (.cells #[.string tl, .int .i64 kind, .slice dA dn dc, .slice vA vn vc] 35))) := (Below.refl _ w).alloc (Nat.le_refl _) _
  have c0 := (HB0.out.cell (p := ⟨b, 0, none⟩) hb).trans hc
  have k0 := (Bk.new w 35 #[.string tl, .int .i64 kind, .slice dA dn dc, .slice vA vn vc]).cell 0
  simp only [List.getElem?_toArray, List.getElem?_cons_zero] at k0
  simp only [tgV]
  clear hc
  go_enter Tryz.func40, Tryz.ntmps40
  go_wp2
  go_ret
  exact ⟨ret_bool (str_dec tl lab), HB0.out⟩

set_option maxRecDepth 100000 in
set_option maxHeartbeats 1000000 in
theorem bds_any (A : Option Addr) (n c B b : Nat) (ts : List Tg) (lab : ByteArray) (w : World) (h0 : Sl w B 4 A n (flat tgC ts)) (hB : B ≤ w.heap.size) (hn : n ≤ 1000000) (hc : w.cell? ⟨b, 0, none⟩ = some (.string lab)) (hb : b < w.heap.size) :
    Calls Tryz.prog 24 #[.slice A n c, .func (.func 40) #[] #[.pointer (some ⟨b, 0, none⟩)]] w (InxEnd ts lab w) := by
  have HL := Lib.hid (h0.len tgC_len (by omega))
  have H0 := Lib.hid h0; have HC := Lib.hid hc
  clear h0 hc
  go_enter Tryz.func24, Tryz.ntmps24
  go_wp2
  go_loopw [8] (fun i wr => ∃ k : Nat, k ≤ n ∧ i = .int .i64 k ∧ Hid (findT (ts.take k) lab = none) ∧ Hid (Below w.heap.size w wr)) (fun i _ => n - (intOf i).toNat)
  case atStart => exact ⟨0, Nat.zero_le _, rfl, rfl, Below.refl _ _⟩
  case round =>
    obtain ⟨k, hk, rfl, hF, hBel⟩ := hrel
    by_cases hlt : k < n
    · obtain ⟨bb, off, t, rfl, hbB, ht, y0, y1, y2, y3⟩ := (H0.out.below hBel.out hB).tg hlt
      have hlz : (k : Int) < (n : Int) := by omega
      have hcr := (hBel.out.cell (p := ⟨b, 0, none⟩) hb).trans HC.out
      have HI := Lib.hid (bds1_any t lab b wr hcr (Nat.lt_of_lt_of_le hb hBel.out.size))
      have HT := Lib.hid ht
      clear ht hcr
      by_cases e : t.lab = lab
      · have HE := Lib.hid (findT_here hF.out HT.out e)
        have hd : decide (t.lab = lab) = true := by simp [e]
        rw [hd] at HI
        clear e hd
        obtain ⟨tl, kind, dA, dn, dc, deps, vA, vn, vc, vis⟩ := t
        simp only [tgV] at HI y0 y1 y2 y3
        go_wp2_with (go_at_call 40; refine HI.out.mono ?_; rintro e w1 ⟨rfl, hb1⟩)
        go_ret
        exact ⟨_, rfl, .inl ⟨k, _, rfl, HT.out, HE.out⟩, hBel.out.trans (hb1.mono hBel.out.size)⟩
      · have HE := Lib.hid (findT_pass hF.out HT.out e)
        have hd : decide (t.lab = lab) = false := by simp [e]
        rw [hd] at HI
        clear e hd
        obtain ⟨tl, kind, dA, dn, dc, deps, vA, vn, vc, vis⟩ := t
        simp only [tgV] at HI y0 y1 y2 y3
        go_wp2_with (go_at_call 40; refine HI.out.mono ?_; rintro e w1 ⟨rfl, hb1⟩)
        go_roundw
        case rel => exact ⟨k + 1, by omega, by go_num, HE.out, hBel.out.trans (hb1.mono hBel.out.size)⟩
        case measure => simp [intOf]; omega
    · have hlz : ¬ (k : Int) < (n : Int) := by omega
      have HN : Hid (findT ts lab = none) := by
        have h1 := hF.out
        rwa [List.take_of_length_le (by rw [HL.out]; omega)] at h1
      go_wp2
      go_ret
      exact ⟨_, rfl, .inr ⟨rfl, HN.out⟩, hBel.out⟩
end Go.Proofs.YtddlohbhchjjhaaGreatDoor

namespace Go.Proofs.YtddlohbhchjjhaaGreatDoor
open Go.RowKit

def IxR (l : List ByteArray) (s : ByteArray) (z : Int) : Prop := (z = -1 ∧ s ∉ l) ∨ ∃ k : Nat, z = (k : Int) ∧ l[k]? = some s ∧ s ∉ l.take k
theorem IxR.nat {l : List ByteArray} {s : ByteArray} {z : Int} (h : IxR l s z) (hs : s ∈ l) : ∃ k : Nat, z = (k : Int) ∧ l[k]? = some s ∧ s ∉ l.take k := by
  rcases h with ⟨_, h⟩ | h
  · exact absurd hs h
  · exact h
theorem IxR.lt {l : List ByteArray} {d : ByteArray} {z : Int} {k : Nat} (h : IxR l d z) (hd : d ∈ l.take k) : ∃ i : Nat, z = (i : Int) ∧ i < k := by
  obtain ⟨i, h1, h2, h3⟩ := h.nat (List.mem_of_mem_take hd)
  refine ⟨i, h1, ?_⟩
  rcases Nat.lt_or_ge i k with e | e
  · exact e
  · exact absurd (List.take_subset_take_left l e hd) h3
set_option maxRecDepth 100000 in
set_option maxHeartbeats 1000000 in
theorem indexS_any (A : Option Addr) (n c B : Nat) (l : List ByteArray) (s : ByteArray) (w : World) (h0 : Sl w B 1 A n (strs l)) (hn : n ≤ maxLen) :
    Calls Tryz.prog 28 #[.slice A n c, .string s] w fun e w' => (∃ z : Int, e = .returned (.int .i64 z) ∧ IxR l s z) ∧ w' = w := by
  unfold maxLen at hn
  have HL0 : Hid (l.length = n) := by have := h0.1; rw [strs_len] at this; show _ = _; omega
  have H0 := Lib.hid h0; clear h0
  go_enter Tryz.func28, Tryz.ntmps28
  go_wp2
  go_loopw [8] (fun i wr => ∃ k : Nat, k ≤ n ∧ i = .int .i64 k ∧ wr = w ∧ Hid (s ∉ l.take k)) (fun i _ => n - (intOf i).toNat)
  case atStart => exact ⟨0, Nat.zero_le _, rfl, rfl, fun hm => by simp at hm⟩
  case round =>
    obtain ⟨k, hk, rfl, rfl, hN⟩ := hrel
    by_cases hlt : k < n
    · obtain ⟨b, off, v, rfl, hb, hv, z0⟩ := H0.out.str_at hlt
      have hkz : (k : Int) < (n : Int) := by omega
      have HV := Lib.hid hv; clear hv
      have hse := str_dec s v
      by_cases e : s = v
      · rw [decide_eq_true e] at hse
        have HE := Lib.hid e; clear e
        go_wp2
        go_ret
        exact ⟨⟨_, rfl, .inr ⟨k, rfl, by rw [HV.out, HE.out], hN.out⟩⟩, rfl⟩
      · rw [decide_eq_false e] at hse
        have HN : Hid (s ∉ l.take (k + 1)) := fun hm => by
          rw [take_snoc HV.out] at hm
          rcases List.mem_append.1 hm with hm | hm
          · exact hN.out hm
          · exact e (List.mem_singleton.1 hm)
        clear e
        go_wp2
        go_roundw
        case rel => exact ⟨k + 1, hlt, by go_num, trivial, HN.out⟩
        case measure => simp [intOf]; omega
    · have hkz : ¬ (k : Int) < (n : Int) := by omega
      have HN : Hid (s ∉ l) := by
        have := hN.out
        rwa [List.take_of_length_le (by rw [HL0.out]; omega)] at this
      go_wp2
      go_ret
      exact ⟨⟨_, rfl, .inl ⟨rfl, HN.out⟩⟩, rfl⟩
end Go.Proofs.YtddlohbhchjjhaaGreatDoor

namespace Go.Proofs.YtddlohbhchjjhaaGreatDoor
open Go.RowKit Go.Maps

structure Smal (t : Tg) : Prop where
  lab : t.lab.size ≤ 100
  dn : t.deps.length ≤ 12
  vn : t.vis.length ≤ 12
  ds : ∀ d ∈ t.deps, d.size ≤ 100
  vs : ∀ d ∈ t.vis, d.size ≤ 100
theorem all_step {α : Type} {p : α → Prop} {l : List α} {k : Nat} {x : α} (h : ∀ y ∈ l.take k, p y) (hx : l[k]? = some x) (hp : p x) : ∀ y ∈ l.take (k + 1), p y := fun y hy => by
  rw [take_snoc hx] at hy
  rcases List.mem_append.1 hy with hy | hy
  · exact h y hy
  · rw [List.mem_singleton.1 hy]; exact hp
theorem all_take {α : Type} {p : α → Prop} {l : List α} {k : Nat} (h : ∀ y ∈ l.take k, p y) (hk : l.length ≤ k) : ∀ y ∈ l, p y := fun y hy => h y (by rw [List.take_of_length_le hk]; exact hy)
def GrsEnd (ts : List Tg) (n : Nat) (w : World) (e : Ending) (w' : World) : Prop := ∃ r : Bool, e = .returned (.bool r) ∧ (r = false → n ≤ 12 ∧ ∀ t ∈ ts, Smal t) ∧ w = w'
set_option maxRecDepth 100000 in
set_option maxHeartbeats 4000000 in
theorem rgreatS_any (A : Option Addr) (n c B : Nat) (ts : List Tg) (w : World) (h0 : Sl w B 4 A n (flat tgC ts)) (hok : ∀ t ∈ ts, TgOk w B t) (hnc : n ≤ c) (hcm : c ≤ maxLen) :
    Calls Tryz.prog 16 #[.slice A n c] w (GrsEnd ts n w) := by
  have HTL := Lib.hid (h0.len tgC_len (by omega))
  have H0 := Lib.hid h0; have HOK := Lib.hid hok
  clear h0 hok
  have hnm : n ≤ 9223372036854775807 := by unfold maxLen at hcm; omega
  go_enter Tryz.func16, Tryz.ntmps16
  go_wp2
  go_loop [3] (fun i => ∃ k : Nat, k ≤ n ∧ i = .int .i64 k ∧ Hid (∀ t ∈ ts.take k, Smal t)) (fun i => n - (intOf i).toNat)
  case atStart => exact ⟨0, Nat.zero_le _, rfl, fun y hy => by simp at hy⟩
  case round =>
    obtain ⟨k, hk, rfl, hS⟩ := hrel
    by_cases hlt : k < n
    · obtain ⟨b, off, t, rfl, hbB, ht, y0, y1, y2, y3⟩ := H0.out.tg hlt
      have HTO := Lib.hid (HOK.out t (List.mem_of_getElem? ht))
      have hkz : (k : Int) < (n : Int) := by omega
      have hd1 := HTO.out.dle; have hd2 := HTO.out.dmax; have hv1 := HTO.out.vle; have hv2 := HTO.out.vmax
      have hdm : t.dn ≤ 9223372036854775807 := by unfold maxLen at hd2; omega
      have hvm : t.vn ≤ 9223372036854775807 := by unfold maxLen at hv2; omega
      have HT := Lib.hid ht
      have HDL := Lib.hid HTO.out.dlen; have HVL := Lib.hid HTO.out.vlen
      clear ht hd1 hd2 hv1 hv2
      obtain ⟨tl, kind, dA, dn, dc, deps, vA, vn, vc, vis⟩ := t
      simp only at y0 y1 y2 y3 hdm hvm HDL HVL
      by_cases c1 : (100 : Int) < (tl.size : Int)
      · go_wp2
        go_ret
        exact ⟨true, rfl, (fun e => by cases e), rfl⟩
      by_cases c2 : (12 : Int) < (dn : Int)
      · go_wp2
        go_ret
        exact ⟨true, rfl, (fun e => by cases e), rfl⟩
      by_cases c3 : (12 : Int) < (vn : Int)
      · go_wp2
        go_ret
        exact ⟨true, rfl, (fun e => by cases e), rfl⟩
      go_wp2
      go_loop [4] (fun i => ∃ j : Nat, j ≤ dn ∧ i = .int .i64 j ∧ Hid (∀ d ∈ deps.take j, d.size ≤ 100)) (fun i => dn - (intOf i).toNat)
      case atStart => exact ⟨0, Nat.zero_le _, rfl, fun y hy => by simp at hy⟩
      case round =>
        obtain ⟨j, hj, rfl, hDS⟩ := hrel
        by_cases hjl : j < dn
        · obtain ⟨db, doff, d, hde, hdb, hd, z0⟩ := HTO.out.d.str_at hjl
          simp only at hde
          subst hde
          have hjz : (j : Int) < (dn : Int) := by omega
          have HD := Lib.hid hd
          clear hd
          by_cases c4 : (100 : Int) < (d.size : Int)
          · go_wp2
            go_ret
            exact ⟨true, rfl, (fun e => by cases e), rfl⟩
          · have hnx : Hid (∀ x ∈ deps.take (j + 1), x.size ≤ 100) := all_step hDS.out HD.out (by omega)
            go_wp2
            go_round
            case rel => exact ⟨j + 1, hjl, by go_num, hnx.out⟩
            case measure => simp [intOf]; omega
        · have hjz : ¬ (j : Int) < (dn : Int) := by omega
          go_wp2
          go_loop [5] (fun i => ∃ j : Nat, j ≤ vn ∧ i = .int .i64 j ∧ Hid (∀ d ∈ vis.take j, d.size ≤ 100)) (fun i => vn - (intOf i).toNat)
          case atStart => exact ⟨0, Nat.zero_le _, rfl, fun y hy => by simp at hy⟩
          case round =>
            obtain ⟨i, hi, rfl, hVS⟩ := hrel
            by_cases hil : i < vn
            · obtain ⟨db, doff, d, hde, hdb, hd, z0⟩ := HTO.out.v.str_at hil
              simp only at hde
              subst hde
              have hiz : (i : Int) < (vn : Int) := by omega
              have HD := Lib.hid hd
              clear hd
              by_cases c4 : (100 : Int) < (d.size : Int)
              · go_wp2
                go_ret
                exact ⟨true, rfl, (fun e => by cases e), rfl⟩
              · have hnx : Hid (∀ x ∈ vis.take (i + 1), x.size ≤ 100) := all_step hVS.out HD.out (by omega)
                go_wp2
                go_round
                case rel => exact ⟨i + 1, hil, by go_num, hnx.out⟩
                case measure => simp [intOf]; omega
            · have hiz : ¬ (i : Int) < (vn : Int) := by omega
              have hnx : Hid (∀ x ∈ ts.take (k + 1), Smal x) := by
                have a1 := HDL.out; have a2 := HVL.out
                exact all_step hS.out HT.out ⟨by show tl.size ≤ 100; omega, by show deps.length ≤ 12; omega, by show vis.length ≤ 12; omega, all_take (l := deps) hDS.out (by omega), all_take (l := vis) hVS.out (by omega)⟩
              go_wp2
              go_round
              case rel => exact ⟨k + 1, hlt, by go_num, hnx.out⟩
              case measure => simp [intOf]; omega
    · have hkz : ¬ (k : Int) < (n : Int) := by omega
      by_cases c5 : (12 : Int) < (n : Int)
      · go_wp2
        go_ret
        exact ⟨true, rfl, (fun e => by cases e), rfl⟩
      · go_wp2
        go_ret
        exact ⟨false, rfl, (fun _ => ⟨by omega, all_take hS.out (by rw [HTL.out]; omega)⟩), rfl⟩
end Go.Proofs.YtddlohbhchjjhaaGreatDoor

namespace Go.Proofs.YtddlohbhchjjhaaGreatDoor
open Go.RowKit Go.Maps

set_option maxRecDepth 100000 in
set_option maxHeartbeats 1000000 in
theorem strings38_any (A0 A1 : Option Addr) (n0 c0 n1 c1 B : Nat) (rs qs : List ByteArray) (w : World) (h0 : Sl w B 1 A0 n0 (strs rs)) (h1 : Sl w B 1 A1 n1 (strs qs)) (m0 : n0 ≤ maxLen) :
    Calls Tryz.prog 104 #[.slice A0 n0 c0, .slice A1 n1 c1] w fun e w' => e = .returned (.bool (decide (rs = qs))) ∧ ∃ k, w' = w.drewN k := by
  unfold maxLen at m0
  have HL0 : Hid (rs.length = n0) := by have := h0.1; rw [strs_len] at this; show _ = _; omega
  have HL1 : Hid (qs.length = n1) := by have := h1.1; rw [strs_len] at this; show _ = _; omega
  have H0 := Lib.hid h0; have H1 := Lib.hid h1; clear h0 h1
  have hM : Hid (decide (rs = qs) = true ↔ rs = qs) := decide_eq_true_iff
  generalize decide (rs = qs) = mb at *
  by_cases hn : n0 = n1
  · subst hn
    go_enter Tryz.func104, Tryz.ntmps104
    go_wp2
    go_loopw [5] (fun i wr => ∃ k nq : Nat, k ≤ n0 ∧ i = .int .i64 k ∧ wr = w.drewN nq ∧ Hid (rs.take k = qs.take k)) (fun i _ => n0 - (intOf i).toNat)
    case atStart => exact ⟨0, 0, Nat.zero_le _, rfl, rfl, rfl⟩
    case round =>
      obtain ⟨k, nq, hk, rfl, rfl, heq⟩ := hrel
      by_cases hlt : k < n0
      · obtain ⟨b0, o0, r, rfl, _, hr, x0⟩ := H0.out.str_at hlt
        obtain ⟨b1, o1, q, rfl, _, hq, y0⟩ := H1.out.str_at hlt
        have HR := Lib.hid hr; have HQ := Lib.hid hq; clear hr hq
        have hlz : (k : Int) < (n0 : Int) := by omega
        have hse := str_dec r q
        by_cases e : r = q
        · rw [decide_eq_true e] at hse
          have HE := Lib.hid e; clear e
          have hnx : Hid (rs.take (k + 1) = qs.take (k + 1)) := by
            show _ = _
            rw [take_snoc HR.out, take_snoc HQ.out, heq.out, HE.out]
          go_wp2
          go_quiet (fail)
          go_wp2
          go_roundw
          case rel => exact ⟨k + 1, _, by omega, by go_num, rfl, hnx⟩
          case measure => simp [intOf]; omega
        · rw [decide_eq_false e] at hse
          have HE := Lib.hid e; clear e
          go_wp2
          go_quiet (fail)
          go_wp2
          go_ret
          refine ⟨ret_bool ?_, ⟨_, World.drewN_drewN _ _ _⟩⟩
          symm
          rw [Bool.eq_false_iff]
          intro hh
          have := hM.out.1 hh
          subst this
          exact HE.out (Option.some.inj (HR.out.symm.trans HQ.out))
      · have hall : Hid (mb = true) := by
          have := heq.out
          rw [List.take_of_length_le (by rw [HL0.out]; omega), List.take_of_length_le (by rw [HL1.out]; omega)] at this
          exact hM.out.2 this
        have hlz : ¬ (k : Int) < (n0 : Int) := by omega
        go_wp2
        go_ret
        exact ⟨ret_bool hall.out.symm, _, rfl⟩
  · have hne : ((n0 : Int) != (n1 : Int)) = true := by rw [bne_iff_ne]; omega
    go_enter Tryz.func104, Tryz.ntmps104
    go_wp2
    go_ret
    refine ⟨ret_bool ?_, 0, rfl⟩
    symm
    rw [Bool.eq_false_iff]
    intro hh
    have := hM.out.1 hh
    subst this
    exact hn (HL0.out.symm.trans HL1.out)

set_option maxRecDepth 100000 in
set_option maxHeartbeats 4000000 in
theorem sameTg_any (t u : Tg) (B : Nat) (w : World) (ht : TgOk w B t) (hu : TgOk w B u) (hB : B ≤ w.heap.size) (he : ct t = ct u) :
    Calls Tryz.prog 57 #[tgV t, tgV u] w fun e w' => e = .returned (.bool true) ∧ Below w.heap.size w w' := by
  obtain ⟨tl, tk, tA, tn, tc, td, tvA, tvn, tvc, tv⟩ := t
  obtain ⟨ul, uk, uA, un, uc, ud, uvA, uvn, uvc, uv⟩ := u
  simp only [ct, Prod.mk.injEq] at he
  obtain ⟨h1, h2, h3, h4⟩ := he
  subst h1 h2 h3 h4
  have HT := Lib.hid ht; have HU := Lib.hid hu
  clear ht hu
  simp only [tgV]
  obtain ⟨W0, hW0⟩ : ∃ W0, w.alloc (.cells #[.string tl, .int .i64 tk, .slice tA tn tc, .slice tvA tvn tvc] 35) = W0 := ⟨_, rfl⟩
  obtain ⟨W1, hW1⟩ : ∃ W1, W0.alloc (.cells #[.string tl, .int .i64 tk, .slice uA un uc, .slice uvA uvn uvc] 35) = W1 := ⟨_, rfl⟩
  have zW0 : W0.heap.size = w.heap.size + 1 := by rw [← hW0]; simp
  have HB1 : Hid (Below w.heap.size w W1) := by rw [← hW1, ← hW0]; exact ((Below.refl _ w).alloc (Nat.le_refl _) _).alloc (by simp) _
  have HK0 : Hid (Bk W1 w.heap.size 35 #[.string tl, .int .i64 tk, .slice tA tn tc, .slice tvA tvn tvc]) := by rw [← hW1, ← hW0]; exact (Bk.new w _ _).alloc _
  have HK1 : Hid (Bk W1 (w.heap.size + 1) 35 #[.string tl, .int .i64 tk, .slice uA un uc, .slice uvA uvn uvc]) := by rw [← hW1]; have := Bk.new W0 35 #[.string tl, .int .i64 tk, .slice uA un uc, .slice uvA uvn uvc]; rwa [zW0] at this
  have x0 := HK0.out.cell 0; have x1 := HK0.out.cell 1; have x2 := HK0.out.cell 2
  have y0 := HK1.out.cell 0; have y1 := HK1.out.cell 1; have y2 := HK1.out.cell 2
  simp at x0 x1 x2 y0 y1 y2
  have HS1 : Hid (Calls Tryz.prog 104 #[.slice tA tn tc, .slice uA un uc] W1 fun e w' => e = .returned (.bool true) ∧ ∃ k, w' = W1.drewN k) := Calls.mono (strings38_any tA uA tn tc un uc B td td W1 (HT.out.d.below HB1.out hB) (HU.out.d.below HB1.out hB) (Nat.le_trans HT.out.dle HT.out.dmax)) (fun e w' h => ⟨h.1.trans (ret_bool (decide_eq_true rfl)), h.2⟩)
  go_enter Tryz.func57, Tryz.ntmps57
  go_wp2_with fail
  refine HS1.out.mono ?_
  rintro e w2 ⟨rfl, q, rfl⟩
  obtain ⟨w2, hw2⟩ : ∃ w2, W1.drewN q = w2 := ⟨_, rfl⟩
  have HB12 : Hid (Below W1.heap.size W1 w2) := by rw [← hw2]; exact below_drewN (Below.refl _ _) _
  have HB2 : Hid (Below w.heap.size w w2) := HB1.out.trans (HB12.out.mono HB1.out.size)
  have HK02 := Lib.hid (HK0.out.below HB12.out HK0.out.lt); have HK12 := Lib.hid (HK1.out.below HB12.out HK1.out.lt)
  rw [hw2]
  clear hw2 hW0 hW1 x0 x1 x2 y0 y1 y2 HS1
  have x3 := HK02.out.cell 3; have y3 := HK12.out.cell 3
  simp at x3 y3
  have HS2 : Hid (Calls Tryz.prog 104 #[.slice tvA tvn tvc, .slice uvA uvn uvc] w2 fun e w' => e = .returned (.bool true) ∧ ∃ k, w' = w2.drewN k) := Calls.mono (strings38_any tvA uvA tvn tvc uvn uvc B tv tv w2 (HT.out.v.below HB2.out hB) (HU.out.v.below HB2.out hB) (Nat.le_trans HT.out.vle HT.out.vmax)) (fun e w' h => ⟨h.1.trans (ret_bool (decide_eq_true rfl)), h.2⟩)
  go_wp2_with fail
  refine HS2.out.mono ?_
  rintro e w3 ⟨rfl, q3, rfl⟩
  have HB3 : Hid (Below w.heap.size w (w2.drewN q3)) := below_drewN HB2.out _
  go_wp2_with fail
  go_ret
  exact ⟨rfl, HB3.out⟩

set_option maxRecDepth 100000 in
set_option maxHeartbeats 4000000 in
theorem same_any (A0 A1 : Option Addr) (n0 c0 n1 c1 B : Nat) (rs qs : List Tg) (w : World) (h0 : Sl w B 4 A0 n0 (flat tgC rs)) (h1 : Sl w B 4 A1 n1 (flat tgC qs)) (hr : ∀ t ∈ rs, TgOk w B t) (hq : ∀ t ∈ qs, TgOk w B t) (hB : B ≤ w.heap.size) (hn : n0 ≤ 1000000) (he : rs.map ct = qs.map ct) :
    Calls Tryz.prog 15 #[.agg #[.slice A0 n0 c0], .agg #[.slice A1 n1 c1]] w fun e w' => e = .returned (.bool true) ∧ Below w.heap.size w w' := by
  have HL0 := Lib.hid (h0.len tgC_len (by omega)); have HL1 := Lib.hid (h1.len tgC_len (by omega))
  obtain rfl : n0 = n1 := by
    have := congrArg List.length he
    rw [List.length_map, List.length_map, HL0.out, HL1.out] at this
    exact this
  have H0 := Lib.hid h0; have H1 := Lib.hid h1; have HR := Lib.hid hr; have HQ := Lib.hid hq; have HE := Lib.hid he
  clear h0 h1 hr hq he
  obtain ⟨W0, hW0⟩ : ∃ W0, w.alloc (.cells #[.slice A0 n0 c0] 27) = W0 := ⟨_, rfl⟩
  obtain ⟨W1, hW1⟩ : ∃ W1, W0.alloc (.cells #[.slice A1 n0 c1] 27) = W1 := ⟨_, rfl⟩
  have zW0 : W0.heap.size = w.heap.size + 1 := by rw [← hW0]; simp
  have zW1 : W1.heap.size = w.heap.size + 2 := by rw [← hW1]; simp [zW0]
  have HB1 : Hid (Below w.heap.size w W1) := by rw [← hW1, ← hW0]; exact ((Below.refl _ w).alloc (Nat.le_refl _) _).alloc (by simp) _
  have HK0 : Hid (Bk W1 w.heap.size 27 #[.slice A0 n0 c0]) := by rw [← hW1, ← hW0]; exact (Bk.new w _ _).alloc _
  have HK1 : Hid (Bk W1 (w.heap.size + 1) 27 #[.slice A1 n0 c1]) := by rw [← hW1]; have := Bk.new W0 27 #[.slice A1 n0 c1]; rwa [zW0] at this
  have x0 := HK0.out.cell 0; have y0 := HK1.out.cell 0
  simp at x0 y0
  go_enter Tryz.func15, Tryz.ntmps15
  go_wp2_with fail
  clear hW0 hW1 x0 y0
  go_loopw [5] (fun i wr => ∃ k : Nat, k ≤ n0 ∧ i = .int .i64 k ∧ Hid (Below W1.heap.size W1 wr)) (fun i _ => n0 - (intOf i).toNat)
  case atStart => exact ⟨0, Nat.zero_le _, rfl, Below.refl _ _⟩
  case round =>
    obtain ⟨k, hk, rfl, hBw⟩ := hrel
    have hzr := hBw.out.size
    have HBw : Hid (Below w.heap.size w wr) := HB1.out.trans (hBw.out.mono HB1.out.size)
    have x0 := (HK0.out.below hBw.out (by omega)).cell 0; have y0 := (HK1.out.below hBw.out (by omega)).cell 0
    simp at x0 y0
    by_cases hlt : k < n0
    · have hlz : (k : Int) < (n0 : Int) := by omega
      obtain ⟨b0, o0, t, rfl, hb0, ht, z0, z1, z2, z3⟩ := (H0.out.below HBw.out hB).tg hlt
      obtain ⟨b1, o1, u, rfl, hb1, hu, s0, s1, s2, s3⟩ := (H1.out.below HBw.out hB).tg hlt
      have hct : ct t = ct u := by
        have h2 := congrArg (fun l => l[k]?) HE.out
        simp only [List.getElem?_map, ht, hu, Option.map_some, Option.some.injEq] at h2
        exact h2
      have hwz := HBw.out.size
      have HST : Hid (∀ W, Below wr.heap.size wr W → Calls Tryz.prog 57 #[tgV t, tgV u] W fun e w' => e = .returned (.bool true) ∧ Below W.heap.size W w') := fun W hb => sameTg_any t u B W ((HR.out t (List.mem_of_getElem? ht)).below (HBw.out.trans (hb.mono HBw.out.size)) hB) ((HQ.out u (List.mem_of_getElem? hu)).below (HBw.out.trans (hb.mono HBw.out.size)) hB) (by have := hb.size; omega) hct
      obtain ⟨tl, tk, tdA, tdn, tdc, td, tvA, tvn, tvc, tv⟩ := t
      obtain ⟨ul, uk, udA, udn, udc, ud, uvA, uvn, uvc, uv⟩ := u
      simp only [tgV] at HST z0 z1 z2 z3 s0 s1 s2 s3
      clear ht hu hct
      go_wp2_with fail
      refine wp_region_stableGD 11 (20 :: 21 :: 22 :: 23 :: 24 :: 25 :: 26 :: 27 :: 28 :: 29 :: 30 :: []) (by kernel_rfl) (by kernel_rfl) (by kernel_rfl) (fun W => Below wr.heap.size wr W) (fun W W' => Below W.heap.size W W')
        (vPhi ((.pointer (some ⟨w.heap.size, 0, none⟩)) :: (.slice (some ⟨b0, o0, none⟩) n0 c0) :: (.int .i64 k) :: (.pointer (some ⟨b0, o0 + k * 4, none⟩)) :: (.agg #[.string tl, .int .i64 tk, .slice tdA tdn tdc, .slice tvA tvn tvc]) :: (.pointer (some ⟨w.heap.size + 1, 0, none⟩)) :: (.slice (some ⟨b1, o1, none⟩) n0 c1) :: (.int .i64 k) :: (.pointer (some ⟨b1, o1 + k * 4, none⟩)) :: (.agg #[.string ul, .int .i64 uk, .slice udA udn udc, .slice uvA uvn uvc]) :: (.bool true) :: [])) (fun W W' h1 h2 => h1.trans (h2.mono h1.size)) (fun i v W W' h _ => h) (Below.refl _ _).drew ?stepA ?tailA
      case stepA =>
        intro i o vs W hi ho hv hR hphi
        obtain ⟨v0, v1, v2, v3, v4, v5, v6, v7, v8, v9, v10, rfl⟩ := ls11 hv
        simp only [List.zip, List.zipWith, putAll, Act.put, List.setIfInBounds_toArray, List.set]
        have hWz := hR.size
        have q0 := (hR.cell (p := ⟨b0, o0 + k * 4, none⟩) (by show b0 < _; omega)).trans z0
        have q1 := (hR.cell (p := ⟨b0, o0 + k * 4 + 1, none⟩) (by show b0 < _; omega)).trans z1
        have q2 := (hR.cell (p := ⟨b0, o0 + k * 4 + 2, none⟩) (by show b0 < _; omega)).trans z2
        have q3 := (hR.cell (p := ⟨b0, o0 + k * 4 + 3, none⟩) (by show b0 < _; omega)).trans z3
        have r0 := (hR.cell (p := ⟨b1, o1 + k * 4, none⟩) (by show b1 < _; omega)).trans s0
        have r1 := (hR.cell (p := ⟨b1, o1 + k * 4 + 1, none⟩) (by show b1 < _; omega)).trans s1
        have r2 := (hR.cell (p := ⟨b1, o1 + k * 4 + 2, none⟩) (by show b1 < _; omega)).trans s2
        have r3 := (hR.cell (p := ⟨b1, o1 + k * 4 + 3, none⟩) (by show b1 < _; omega)).trans s3
        have qx := (hR.cell (p := ⟨w.heap.size, 0, none⟩) (by show w.heap.size < _; omega)).trans x0
        have qy := (hR.cell (p := ⟨w.heap.size + 1, 0, none⟩) (by show w.heap.size + 1 < _; omega)).trans y0
        match i, hi, ho with
        | 0, _, rfl =>
          exact .inl ⟨rfl, gives_value (v := .pointer (some ⟨w.heap.size, 0, none⟩)) (w' := W) (by go_simp) ⟨Below.refl _ _, fun u hu => by cases hu; rfl⟩⟩
        | 1, _, rfl =>
          have e0 : v0 = _ := hphi ⟨0, .data⟩ (by simp) rfl v0 rfl _ rfl
          subst e0
          exact .inl ⟨rfl, gives_value (v := .slice (some ⟨b0, o0, none⟩) n0 c0) (w' := W) (by go_simp) ⟨Below.refl _ _, fun u hu => by cases hu; rfl⟩⟩
        | 2, _, rfl =>
          exact .inl ⟨rfl, gives_value (v := .int .i64 k) (w' := W) (by go_simp) ⟨Below.refl _ _, fun u hu => by cases hu; rfl⟩⟩
        | 3, _, rfl =>
          have e1 : v1 = _ := hphi ⟨1, .data⟩ (by simp) rfl v1 rfl _ rfl
          have e2 : v2 = _ := hphi ⟨2, .data⟩ (by simp) rfl v2 rfl _ rfl
          subst e1 e2
          exact .inl ⟨rfl, gives_value (v := .pointer (some ⟨b0, o0 + k * 4, none⟩)) (w' := W) (by go_simp) ⟨Below.refl _ _, fun u hu => by cases hu; rfl⟩⟩
        | 4, _, rfl =>
          have e3 : v3 = _ := hphi ⟨3, .data⟩ (by simp) rfl v3 rfl _ rfl
          subst e3
          exact .inl ⟨rfl, gives_value (v := .agg #[.string tl, .int .i64 tk, .slice tdA tdn tdc, .slice tvA tvn tvc]) (w' := W) (by go_simp) ⟨Below.refl _ _, fun u hu => by cases hu; rfl⟩⟩
        | 5, _, rfl =>
          exact .inl ⟨rfl, gives_value (v := .pointer (some ⟨w.heap.size + 1, 0, none⟩)) (w' := W) (by go_simp) ⟨Below.refl _ _, fun u hu => by cases hu; rfl⟩⟩
        | 6, _, rfl =>
          have e5 : v5 = _ := hphi ⟨5, .data⟩ (by simp) rfl v5 rfl _ rfl
          subst e5
          exact .inl ⟨rfl, gives_value (v := .slice (some ⟨b1, o1, none⟩) n0 c1) (w' := W) (by go_simp) ⟨Below.refl _ _, fun u hu => by cases hu; rfl⟩⟩
        | 7, _, rfl =>
          exact .inl ⟨rfl, gives_value (v := .int .i64 k) (w' := W) (by go_simp) ⟨Below.refl _ _, fun u hu => by cases hu; rfl⟩⟩
        | 8, _, rfl =>
          have e6 : v6 = _ := hphi ⟨6, .data⟩ (by simp) rfl v6 rfl _ rfl
          have e7 : v7 = _ := hphi ⟨7, .data⟩ (by simp) rfl v7 rfl _ rfl
          subst e6 e7
          exact .inl ⟨rfl, gives_value (v := .pointer (some ⟨b1, o1 + k * 4, none⟩)) (w' := W) (by go_simp) ⟨Below.refl _ _, fun u hu => by cases hu; rfl⟩⟩
        | 9, _, rfl =>
          have e8 : v8 = _ := hphi ⟨8, .data⟩ (by simp) rfl v8 rfl _ rfl
          subst e8
          exact .inl ⟨rfl, gives_value (v := .agg #[.string ul, .int .i64 uk, .slice udA udn udc, .slice uvA uvn uvc]) (w' := W) (by go_simp) ⟨Below.refl _ _, fun u hu => by cases hu; rfl⟩⟩
        | 10, _, rfl =>
          have e4 : v4 = _ := hphi ⟨4, .data⟩ (by simp) rfl v4 rfl _ rfl
          have e9 : v9 = _ := hphi ⟨9, .data⟩ (by simp) rfl v9 rfl _ rfl
          subst e4 e9
          refine .inl ⟨rfl, gives_call (f := 57) (args := #[.agg #[.string tl, .int .i64 tk, .slice tdA tdn tdc, .slice tvA tvn tvc], .agg #[.string ul, .int .i64 uk, .slice udA udn udc, .slice uvA uvn uvc]]) (by go_simp) ((HST.out W hR).mono ?_)⟩
          rintro e W' ⟨rfl, hb7⟩
          exact ⟨_, rfl, hb7, fun u hu => by cases hu; rfl⟩
        | i + 11, hi, _ => exact absurd hi (by omega)
      case tailA =>
        intro vs W hv hR hphi
        obtain ⟨v0, v1, v2, v3, v4, v5, v6, v7, v8, v9, v10, rfl⟩ := ls11 hv
        simp only [List.zip, List.zipWith, putAll, Act.put, List.setIfInBounds_toArray, List.set, List.drop]
        have e0 : v0 = _ := hphi 0 v0 rfl _ rfl
        have e1 : v1 = _ := hphi 1 v1 rfl _ rfl
        have e2 : v2 = _ := hphi 2 v2 rfl _ rfl
        have e3 : v3 = _ := hphi 3 v3 rfl _ rfl
        have e4 : v4 = _ := hphi 4 v4 rfl _ rfl
        have e5 : v5 = _ := hphi 5 v5 rfl _ rfl
        have e6 : v6 = _ := hphi 6 v6 rfl _ rfl
        have e7 : v7 = _ := hphi 7 v7 rfl _ rfl
        have e8 : v8 = _ := hphi 8 v8 rfl _ rfl
        have e9 : v9 = _ := hphi 9 v9 rfl _ rfl
        have e10 : v10 = _ := hphi 10 v10 rfl _ rfl
        subst e0 e1 e2 e3 e4 e5 e6 e7 e8 e9 e10
        clear hphi hv
        have HB5 : Hid (Below W1.heap.size W1 W) := hBw.out.trans (hR.mono hzr)
        clear hR
        go_wp2_with fail
        go_roundw
        case rel => exact ⟨k + 1, by omega, by go_num, HB5.out⟩
        case measure => simp [intOf]; omega
    · have hlz : ¬ (k : Int) < (n0 : Int) := by omega
      go_wp2_with fail
      go_ret
      exact ⟨rfl, HBw.out⟩
end Go.Proofs.YtddlohbhchjjhaaGreatDoor

namespace Go.Proofs.YtddlohbhchjjhaaGreatDoor
open Go.RowKit Go.Shelf

def CutR (s a b : ByteArray) (m : Bool) : Prop :=
  (slashL (bl s) < s.size ∧ a = s.extract 0 (slashL (bl s)) ∧ b = s.extract (slashL (bl s) + 1) s.size ∧ m = true) ∨ (slashL (bl s) = s.size ∧ a = s ∧ b = ⟨#[]⟩ ∧ m = false)
def CutEnd (s : ByteArray) (w : World) (e : Ending) (w' : World) : Prop := ∃ a b m, e = .returned (.tuple #[.string a, .string b, .bool m]) ∧ CutR s a b m ∧ Below w.heap.size w w'
theorem resultsCut {w : World} {a : Array Value} {x y z : Value} (hx : a[2]?.getD undef = x) (hy : a[3]?.getD undef = y) (hz : a[4]?.getD undef = z) : (results Tryz.f129 a).run Tryz.prog w = .ok (.tuple #[x, y, z]) w := by
  simp [results, Tryz.results129, hx, hy, hz, go_sem]
set_option maxHeartbeats 2000000 in
theorem cut9_any (s : ByteArray) (w : World) (hs : s.size ≤ 1000000) :
    Calls Tryz.prog 129 #[.string s] w (CutEnd s w) := by
  have HL := Lib.hid (size_len s)
  go_enter Tryz.func129, Tryz.ntmps129
  go_wp2
  go_loopw [5] (fun i wr => ∃ k : Nat, k ≤ s.size ∧ i = .int .i64 k ∧ Hid (∀ j, j < k → (bl s)[j]? ≠ some 47) ∧ wr = w) (fun i _ => s.size - (intOf i).toNat)
  case atStart => exact ⟨0, Nat.zero_le _, rfl, fun j h => absurd h (by omega), rfl⟩
  case round =>
    obtain ⟨k, hk, rfl, hN, rfl⟩ := hrel
    by_cases hlt : k < s.size
    · have hg := Lib.hid (get_data s k hlt)
      have hlz : (k : Int) < (s.size : Int) := by omega
      by_cases h47 : s[k] = 47
      · have t1 : (((s[k].toNat : Nat) : Int) == 47) = true := by simp [h47]
        have HF : Hid (slashL (bl s) = k) := slashL_at hN.out (by unfold bl; rw [← HL.out]; exact hk) (.inr (by show s.data.toList[k]? = _; rw [hg.out, h47]))
        have hw1 : IntKind.i64.wrap ((k : Int) + 1) = (k : Int) + 1 := wrap_sm (by omega) (by omega)
        have hk1 : (k : Int) + 1 ≤ (s.size : Int) := by omega
        have hk2 : (k : Int) ≤ (s.size : Int) := by omega
        have hk3 : ¬ (k : Int) < 0 := by omega
        have hk4 : ¬ (k : Int) + 1 < 0 := by omega
        clear h47
        go_wp2
        go_quiet (fail)
        go_wp2
        exact bodyPost_ret (resultsCut rfl rfl rfl) rfl ⟨_, _, _, rfl, .inl ⟨by rw [HF.out]; exact hlt, by rw [HF.out], by rw [HF.out], rfl⟩, below_drewN (Below.refl _ _) _⟩
      · have t1 : (((s[k].toNat : Nat) : Int) == 47) = false := by
          rw [beq_eq_false_iff_ne]; intro e
          apply h47
          apply UInt8.toNat_inj.1
          show s[k].toNat = 47
          omega
        have HF : Hid (∀ j, j < k + 1 → (bl s)[j]? ≠ some 47) := fun j hj => by
          by_cases e : j = k
          · subst e; show s.data.toList[j]? ≠ _; rw [hg.out]; intro e2; exact h47 (Option.some.inj e2)
          · exact hN.out j (by omega)
        clear h47
        go_wp2
        go_roundw
        case rel => exact ⟨k + 1, hlt, by go_num, HF.out, trivial⟩
        case measure => simp [intOf]; omega
    · have hlz : ¬ (k : Int) < (s.size : Int) := by omega
      have HF : Hid (slashL (bl s) = s.size) := by
        have : k = s.size := by omega
        subst this
        exact slashL_at hN.out (by unfold bl; rw [← HL.out]; exact hk) (.inl (by unfold bl; rw [← HL.out]))
      go_wp2
      exact bodyPost_ret (resultsCut rfl rfl rfl) rfl ⟨_, _, _, rfl, .inr ⟨HF.out, rfl, rfl, rfl⟩, Below.refl _ _⟩
theorem vch_no {c : Int} (h1 : ¬ (97 ≤ c ∧ c ≤ 122)) (h2 : ¬ (65 ≤ c ∧ c ≤ 90)) (h3 : ¬ (48 ≤ c ∧ c ≤ 57)) (h4 : c ≠ 46) (h5 : c ≠ 95) (h6 : c ≠ 45) : vchI c = false := by
  simp [vchI, h4, h5, h6]; omega
theorem vch_yes {c : Int} (h : (97 ≤ c ∧ c ≤ 122) ∨ (65 ≤ c ∧ c ≤ 90) ∨ (48 ≤ c ∧ c ≤ 57) ∨ c = 46 ∨ c = 95 ∨ c = 45) : vchI c = true := by
  simp [vchI]; omega
theorem beq_of {c d : Int} (h : c = d) : (c == d) = true := by rw [h]; simp
theorem beq_no {c d : Int} (h : c ≠ d) : (c == d) = false := by simp [h]
set_option maxRecDepth 100000 in
set_option maxHeartbeats 4000000 in
theorem vname7_any (s : ByteArray) (w : World) (hs : s.size ≤ maxLen) : Calls Tryz.prog 130 #[.string s] w fun e w' => e = .returned (.bool (nameB s)) ∧ w = w' := by
  unfold maxLen at hs
  have HL := Lib.hid (size_len s)
  go_enter Tryz.func130, Tryz.ntmps130
  have hno : ∀ b : Bool, nameB s = b → Hid (nameB s = b) := fun b h => h
  have hls : (bl s).length = s.size := (size_len s).symm
  by_cases c1 : (s.size : Int) < 1
  · have hv := hno false (by unfold nameB nameL; rw [decide_eq_false (by omega), Bool.false_and])
    clear hno hls
    go_wp2_with fail
    go_ret
    exact ⟨ret_bool hv.out.symm, rfl⟩
  by_cases c2 : (24 : Int) < (s.size : Int)
  · have hv := hno false (by unfold nameB nameL; rw [decide_eq_false (p := (bl s).length ≤ 24) (by omega)]; simp)
    clear hno hls
    go_wp2_with fail
    go_ret
    exact ⟨ret_bool hv.out.symm, rfl⟩
  have h3 : (s.toList == [46]) = decide (bl s = [46]) := by rw [ByteArray.toList_eq]; unfold bl; rw [Bool.eq_iff_iff]; simp
  have h4 : (s.toList == [46, 46]) = decide (bl s = [46, 46]) := by rw [ByteArray.toList_eq]; unfold bl; rw [Bool.eq_iff_iff]; simp
  by_cases c3 : bl s = [46]
  · have hv := hno false (by unfold nameB nameL; rw [decide_eq_true c3]; simp)
    rw [decide_eq_true c3] at h3
    clear hno hls h4 c3
    go_wp2_with fail
    go_ret
    exact ⟨ret_bool hv.out.symm, rfl⟩
  rw [decide_eq_false c3] at h3
  by_cases c4 : bl s = [46, 46]
  · have hv := hno false (by unfold nameB nameL; rw [decide_eq_true c4]; simp)
    rw [decide_eq_true c4] at h4
    clear hno hls c4 c3
    go_wp2_with fail
    go_ret
    exact ⟨ret_bool hv.out.symm, rfl⟩
  rw [decide_eq_false c4] at h4
  have HV : Hid (nameB s = (bl s).all vchB) := by
    show _ = _
    unfold nameB nameL
    rw [decide_eq_true (p := 1 ≤ (bl s).length) (by omega), decide_eq_true (p := (bl s).length ≤ 24) (by omega), decide_eq_false c3, decide_eq_false c4]
    simp
  have HLS := Lib.hid hls
  clear hno c3 c4 hls
  go_wp2_with fail
  go_loop [3] (fun i => ∃ k : Nat, k ≤ s.size ∧ i = .int .i64 k ∧ Hid (AllTo (bl s) k)) (fun i => s.size - (intOf i).toNat)
  case atStart => exact ⟨0, Nat.zero_le _, rfl, fun j c h => absurd h (by omega)⟩
  case round =>
    obtain ⟨k, hk, rfl, hA⟩ := hrel
    by_cases hlt : k < s.size
    · have hkz : (k : Int) < (s.size : Int) := by omega
      have HG := Lib.hid (get_data s k hlt)
      have HT : Hid (vchI (s[k].toNat : Int) = true → AllTo (bl s) (k + 1)) := fun hv => hA.out.step HG.out hv
      have HF : Hid (vchI (s[k].toNat : Int) = false → nameB s = false) := fun hv => by
        rw [HV.out, List.all_eq_false]
        exact ⟨s[k], List.mem_of_getElem? HG.out, by unfold vchB; rw [hv]; simp⟩
      clear hA h3 h4
      by_cases h46 : (s[k].toNat : Int) = 46
      · have t46 := beq_of h46
        go_wp2
        all_goals first
          | (go_ret; exact ⟨ret_bool (HF.out (vch_no (by omega) (by omega) (by omega) (by omega) (by omega) (by omega))).symm, rfl⟩)
          | (go_round
             case rel => exact ⟨k + 1, hlt, by go_num, HT.out (vch_yes (by first | omega | (simp at *; omega)))⟩
             case measure => simp [intOf]; omega)
      · have t46 := beq_no h46
        by_cases h95 : (s[k].toNat : Int) = 95
        · have t95 := beq_of h95
          go_wp2
          all_goals first
            | (go_ret; exact ⟨ret_bool (HF.out (vch_no (by omega) (by omega) (by omega) (by omega) (by omega) (by omega))).symm, rfl⟩)
            | (go_round
               case rel => exact ⟨k + 1, hlt, by go_num, HT.out (vch_yes (by first | omega | (simp at *; omega)))⟩
               case measure => simp [intOf]; omega)
        · have t95 := beq_no h95
          by_cases h45 : (s[k].toNat : Int) = 45
          · have t45 := beq_of h45
            go_wp2
            all_goals first
              | (go_ret; exact ⟨ret_bool (HF.out (vch_no (by omega) (by omega) (by omega) (by omega) (by omega) (by omega))).symm, rfl⟩)
              | (go_round
                 case rel => exact ⟨k + 1, hlt, by go_num, HT.out (vch_yes (by first | omega | (simp at *; omega)))⟩
                 case measure => simp [intOf]; omega)
          · have t45 := beq_no h45
            go_wp2
            all_goals first
              | (go_ret; refine ⟨ret_bool (HF.out (vch_no ?_ ?_ ?_ h46 h95 h45)).symm, rfl⟩ <;> omega)
              | (go_round
                 case rel => exact ⟨k + 1, hlt, by go_num, HT.out (vch_yes (by first | omega | (simp at *; omega)))⟩
                 case measure => simp [intOf]; omega)
    · have hkz : ¬ (k : Int) < (s.size : Int) := by omega
      have HT : Hid (nameB s = true) := by
        show _ = _
        rw [HV.out]
        refine AllTo.all ?_
        have := hA.out
        rwa [show k = (bl s).length from by rw [HLS.out]; omega] at this
      clear hA
      go_wp2_with fail
      go_ret
      exact ⟨ret_bool HT.out.symm, rfl⟩
end Go.Proofs.YtddlohbhchjjhaaGreatDoor

namespace Go.Proofs.YtddlohbhchjjhaaGreatDoor
open Go.RowKit Go.Shelf

set_option maxHeartbeats 2000000 in
theorem path9_any (s : ByteArray) (w : World) (hs : s.size ≤ 1000000) :
    Calls Tryz.prog 87 #[.string s] w fun e w' => e = .returned (.bool (pathB s)) ∧ Below w.heap.size w w' := by
  have HL := Lib.hid (size_len s)
  by_cases c1 : 100 < (s.size : Int)
  · have hv : Hid (pathB s = false) := by
      show _ = _
      have := HL.out
      unfold pathB bl; rw [decide_eq_false (by omega), Bool.false_and]
    go_enter Tryz.func87, Tryz.ntmps87
    go_wp2_with fail
    go_ret
    exact ⟨ret_bool hv.out.symm, Below.refl _ _⟩
  have HN : Hid (pathB s = (splitS (bl s)).all nameL) := by
    show _ = _
    have := HL.out
    unfold pathB; rw [decide_eq_true (by unfold bl; omega), Bool.true_and]
  have hs1 : s.size ≤ 100 := by omega
  go_enter Tryz.func87, Tryz.ntmps87
  go_wp2_with fail
  go_loopw [0] (fun a wr => ∃ (t : ByteArray), t.size ≤ 100 ∧ a = .string t ∧ Hid ((splitS (bl s)).all nameL = (splitS (bl t)).all nameL) ∧ Hid (Below w.heap.size w wr)) (fun a _ => szOf a)
  case atStart => exact ⟨s, hs1, rfl, rfl, Below.refl _ _⟩
  case round =>
    obtain ⟨t, ht, rfl, hA, hBel⟩ := hrel
    have HCT := Lib.hid (cut9_any t wr (by omega))
    have htl2 : (bl t).length = t.size := (size_len t).symm
    have HSP := Lib.hid (splitS_slash (bl t))
    rw [htl2] at HSP
    have HTL := Lib.hid htl2
    clear htl2
    go_wp2_with (go_at_call 129; refine HCT.out.mono ?_; rintro e w2 ⟨a, b, m, rfl, hc, hb2⟩; refine halt_ ?_)
    refine unhalt ?_
    have HB2 : Hid (Below w.heap.size w w2) := hBel.out.trans (hb2.mono hBel.out.size)
    clear hb2 HCT
    rcases hc with ⟨hk, rfl, rfl, rfl⟩ | ⟨hk, rfl, rfl, rfl⟩
    · obtain ⟨k, hkk⟩ : ∃ k, slashL (bl t) = k := ⟨_, rfl⟩
      rw [hkk] at hk HSP ⊢
      clear hkk
      have HEX : Hid (bl (t.extract 0 k) = (bl t).take k) := by show _ = _; unfold bl; rw [extract_list]; simp
      have HEY : Hid (bl (t.extract (k + 1) t.size) = (bl t).drop (k + 1)) := by
        show _ = _
        have h2 := HTL.out
        unfold bl at h2 ⊢; rw [extract_list, List.take_of_length_le (by rw [List.length_drop]; omega)]
      have HSP2 : Hid (splitS (bl t) = (bl t).take k :: splitS ((bl t).drop (k + 1))) := by show _ = _; rw [HSP.out, if_pos hk]
      have HNM := Lib.hid (vname7_any (t.extract 0 k) w2 (by rw [ByteArray.size_extract]; unfold maxLen; omega))
      cases hp : nameB (t.extract 0 k) with
      | false =>
        have hF : Hid (pathB s = false) := by
          show _ = _
          rw [HN.out, hA.out, HSP2.out, List.all_cons, ← HEX.out]
          show (nameB (t.extract 0 k) && _) = false
          rw [hp, Bool.false_and]
        rw [hp] at HNM
        clear hp
        go_wp2_with (go_at_call 130; refine HNM.out.mono ?_; rintro e w' ⟨rfl, rfl⟩)
        go_ret
        exact ⟨ret_bool hF.out.symm, HB2.out⟩
      | true =>
        have HA2 : Hid ((splitS (bl s)).all nameL = (splitS (bl (t.extract (k + 1) t.size))).all nameL) := by
          show _ = _
          rw [hA.out, HSP2.out, List.all_cons, ← HEX.out, HEY.out]
          show (nameB (t.extract 0 k) && _) = _
          rw [hp, Bool.true_and]
        have hz2 : (t.extract (k + 1) t.size).size = t.size - (k + 1) := by rw [ByteArray.size_extract]; omega
        have HZ2 := Lib.hid hz2
        rw [hp] at HNM
        clear hp hz2
        go_wp2_with (go_at_call 130; refine HNM.out.mono ?_; rintro e w' ⟨rfl, rfl⟩)
        go_roundw
        case rel => exact ⟨_, by rw [HZ2.out]; omega, rfl, HA2.out, HB2.out⟩
        case measure => show (t.extract (k + 1) t.size).size < t.size; rw [HZ2.out]; omega
    · have HNM := Lib.hid (vname7_any a w2 (by unfold maxLen; omega))
      have hF : Hid (pathB s = nameB a) := by
        show _ = _
        rw [HN.out, hA.out, HSP.out, if_neg (by omega)]; simp [nameB]
      cases hp : nameB a with
      | false =>
        rw [hp] at HNM hF
        clear hp
        go_wp2_with (go_at_call 130; refine HNM.out.mono ?_; rintro e w' ⟨rfl, rfl⟩)
        go_ret
        exact ⟨ret_bool hF.out.symm, HB2.out⟩
      | true =>
        rw [hp] at HNM hF
        clear hp
        go_wp2_with (go_at_call 130; refine HNM.out.mono ?_; rintro e w' ⟨rfl, rfl⟩)
        go_ret
        exact ⟨ret_bool hF.out.symm, HB2.out⟩
def belB (d p : ByteArray) : Bool := decide (d.size < p.size) && (decide (p.extract 0 d.size = d) && decide ((bl p)[d.size]? = some 47))
set_option maxHeartbeats 2000000 in
theorem below9_any (d p : ByteArray) (w : World) :
    Calls Tryz.prog 90 #[.string d, .string p] w fun e w' => e = .returned (.bool (belB d p)) ∧ w = w' := by
  go_enter Tryz.func90, Tryz.ntmps90
  have HB : Hid (belB d p = (decide (d.size < p.size) && (decide (p.extract 0 d.size = d) && decide ((bl p)[d.size]? = some 47)))) := rfl
  by_cases c1 : d.size < p.size
  · have hz : (d.size : Int) < (p.size : Int) := by omega
    have hz1 : (d.size : Int) ≤ (p.size : Int) := by omega
    have hse := str_dec (p.extract 0 d.size) d
    have HG := Lib.hid (get_data p d.size c1)
    rw [decide_eq_true c1, Bool.true_and] at HB
    by_cases c2 : p.extract 0 d.size = d
    · rw [decide_eq_true c2, Bool.true_and] at HB
      rw [decide_eq_true c2] at hse
      by_cases c3 : p[d.size] = 47
      · have t1 : (((p[d.size].toNat : Nat) : Int) == 47) = true := by simp [c3]
        have HF : Hid (belB d p = true) := by show _ = _; rw [HB.out]; exact decide_eq_true (HG.out.trans (by rw [c3]))
        clear c2 c3
        go_wp2
        go_ret
        exact ⟨ret_bool HF.out.symm, rfl⟩
      · have t1 : (((p[d.size].toNat : Nat) : Int) == 47) = false := by
          rw [beq_eq_false_iff_ne]; intro e
          apply c3
          apply UInt8.toNat_inj.1
          show p[d.size].toNat = 47
          omega
        have HF : Hid (belB d p = false) := by show _ = _; rw [HB.out]; exact decide_eq_false fun h => c3 (Option.some.inj (HG.out.symm.trans h))
        clear c2 c3
        go_wp2
        go_ret
        exact ⟨ret_bool HF.out.symm, rfl⟩
    · rw [decide_eq_false c2, Bool.false_and] at HB
      rw [decide_eq_false c2] at hse
      clear c2
      go_wp2
      go_ret
      exact ⟨ret_bool HB.out.symm, rfl⟩
  · have hz : ¬ (d.size : Int) < (p.size : Int) := by omega
    rw [decide_eq_false c1, Bool.false_and] at HB
    go_wp2
    go_ret
    exact ⟨ret_bool HB.out.symm, rfl⟩
end Go.Proofs.YtddlohbhchjjhaaGreatDoor
