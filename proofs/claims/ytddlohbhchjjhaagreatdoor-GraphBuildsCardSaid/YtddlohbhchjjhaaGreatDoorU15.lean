/-
  Lemmas: GraphBuilds.
-/
import Derived.Deep.QuietTactic
import Derived.BigQuiet
import Derived.Deep.CutRange
import Derived.Test.YtddlohbhchjjhaaGreatDoorU14

namespace Go.Proofs.YtddlohbhchjjhaaGreatDoor
open Go.RowKit Go.Maps

theorem halt_appB {P : Program} {ops : Array Oper} {rest : List Oper} {o : Oper} {a : Act} {w : World} {Q : Exit → Act → World → Prop} (s x : Operand) (t : TypeId) (_ : o.op = .call { callee := .builtin .append, args := #[s, x], argTypes := #[t, t] })
    (h : Hid (wpList P ops Q (o :: rest) a w)) : wpList P ops Q (o :: rest) a w := h
theorem sl_onB {w w' : World} {size n : Nat} {A : Option Addr} {xs : List Value} (h : Sl w w.heap.size size A n xs) (hb : Below w.heap.size w w') : Sl w' w'.heap.size size A n xs := (h.below hb (Nat.le_refl _)).more hb.size
theorem HTBlt {B0 : Nat} {W : World} {b : Nat} {t : Tg} (h : TBox B0 W b t) : b < W.heap.size := (World.ownsRow.lt h b rfl).2
structure BdC (ts : List Tg) (k : Nat) (t : Tg) (fs : List Fl) (w2 : World) (bt : Nat) (W : World) (ds : List ByteArray) (rss : List (List Tg)) (Ad : Option Addr) (nd cd : Nat) (Ar : Option Addr) (cr : Nat) (Af : Option Addr) (nf cf : Nat) (vs : List Value) (q : Nat) : Prop where
  s : BdS w2.heap.size W ds rss fs Ad nd cd Ar nd cr Af nf cf vs
  p : ∀ rs, rss[q]? = some rs → BdP ts (k + 1) ds ((rss.set q (rs ++ [rlT t])).map (List.map ct))
  n : ∀ rs, rss[q]? = some rs → ∀ x ∈ rss.set q (rs ++ [rlT t]), x ≠ []
  b : TBox w2.heap.size W bt t
  below : Below w2.heap.size w2 W
  lt : q < nd
  few : nd ≤ 13
theorem nd_eq {w2 W : World} {ts : List Tg} {k : Nat} {ds : List ByteArray} {rss : List (List Tg)} {fs : List Fl} {Ad Ar Af : Option Addr} {nd cd nr cr nf cf : Nat} {vs : List Value} (h : BdS w2.heap.size W ds rss fs Ad nd cd Ar nr cr Af nf cf vs) (hp : BdP ts k ds (rss.map (List.map ct))) : nd = nr := by
  rw [← h.rlen, ← h.dlen, ← hp.len, List.length_map]
theorem nd_few {w2 W : World} {ts : List Tg} {k : Nat} {ds : List ByteArray} {rss : List (List Tg)} {fs : List Fl} {Ad Ar Af : Option Addr} {nd cd nr cr nf cf : Nat} {vs : List Value} (h : BdS w2.heap.size W ds rss fs Ad nd cd Ar nr cr Af nf cf vs) (hp : BdP ts k ds (rss.map (List.map ct))) (hn : ∀ x ∈ rss, x ≠ []) : nd ≤ k := by
  have := hp.few (fun rs hr => by
    obtain ⟨x, hx, rfl⟩ := List.mem_map.1 hr
    have := hn x hx
    intro e
    exact this (List.map_eq_nil_iff.1 e))
  rw [← h.dlen]; exact this
theorem BdC.old {ts : List Tg} {k q : Nat} {t : Tg} {fs : List Fl} {w2 W : World} {bt : Nat} {ds : List ByteArray} {rss : List (List Tg)} {Ad Ar Af : Option Addr} {nd cd cr nf cf : Nat} {vs : List Value} (h : BdS w2.heap.size W ds rss fs Ad nd cd Ar nd cr Af nf cf vs) (hp : BdP ts k ds (rss.map (List.map ct))) (hn : ∀ x ∈ rss, x ≠ []) (hk : k ≤ 12)
    (ht : ts[k]? = some t) (hl : labB t.lab = true) (hq : ds[q]? = some (dirS t.lab)) (hb : TBox w2.heap.size W bt t) (hB : Below w2.heap.size w2 W) : BdC ts k t fs w2 bt W ds rss Ad nd cd Ar cr Af nf cf vs q := by
  have hqd : q < nd := by rw [← h.dlen]; exact (List.getElem?_eq_some_iff.1 hq).1
  refine ⟨h, fun rs hr => ?_, fun rs hr x hx => ?_, hb, hB, hqd, by have := nd_few h hp hn; omega⟩
  · have := hp.old ht hl hq (by rw [List.getElem?_map, hr]; rfl)
    rw [List.map_set, List.map_append]
    exact this
  · rcases List.mem_or_eq_of_mem_set hx with hx | rfl
    · exact hn x hx
    · simp
theorem BdC.new {ts : List Tg} {k : Nat} {t : Tg} {fs : List Fl} {w2 W : World} {bt : Nat} {ds : List ByteArray} {rss : List (List Tg)} {Ad Ar Af : Option Addr} {nd cd cr nf cf : Nat} {vs : List Value} (h : BdS w2.heap.size W (ds ++ [dirS t.lab]) (rss ++ [[]]) fs Ad (nd + 1) cd Ar (nd + 1) cr Af nf cf vs) (hd : ds.length = nd) (hp : BdP ts k ds (rss.map (List.map ct))) (hn : ∀ x ∈ rss, x ≠ []) (hk : k ≤ 12)
    (hnk : nd ≤ k) (ht : ts[k]? = some t) (hl : labB t.lab = true) (hq : dirS t.lab ∉ ds) (hb : TBox w2.heap.size W bt t) (hB : Below w2.heap.size w2 W) : BdC ts k t fs w2 bt W (ds ++ [dirS t.lab]) (rss ++ [[]]) Ad (nd + 1) cd Ar cr Af nf cf vs nd := by
  have hr0 : rss.length = nd := by rw [← hd, ← hp.len, List.length_map]
  have hset : ∀ rs, (rss ++ [[]])[nd]? = some rs → (rss ++ [[]]).set nd (rs ++ [rlT t]) = rss ++ [[rlT t]] := fun rs hr => by
    rw [List.getElem?_append_right (by omega), hr0, Nat.sub_self] at hr
    simp at hr
    subst hr
    rw [List.set_append_right _ _ (by omega), hr0, Nat.sub_self]; rfl
  refine ⟨h, fun rs hr => ?_, fun rs hr x hx => ?_, hb, hB, Nat.lt_succ_self _, by omega⟩
  · rw [hset rs hr, List.map_append]
    exact hp.new ht hl hq
  · rw [hset rs hr] at hx
    rcases List.mem_append.1 hx with hx | hx
    · exact hn x hx
    · rw [List.mem_singleton.1 hx]; simp
theorem one_strB (s : ByteArray) : ∀ u ∈ strs [s], u.oneCell' = true := fun u hu => by simp [strs] at hu; subst hu; rfl
theorem one_flB (f : Fl) : ∀ u ∈ flat flC [f], u.oneCell' = true := fun u hu => by
  simp [flat, flC] at hu
  rcases hu with rfl | rfl <;> rfl
theorem strs_snoc (l : List ByteArray) (s : ByteArray) : strs (l ++ [s]) = strs l ++ strs [s] := by simp [strs]
set_option maxRecDepth 100000 in
set_option maxHeartbeats 16000000 in
theorem lawBuilds_any (A : Option Addr) (n c : Nat) (ts : List Tg) (w : World) (h0 : Sl w w.heap.size 4 A n (flat tgC ts)) (hok : ∀ t ∈ ts, TgOk w w.heap.size t) (hnc : n ≤ c) (hcm : c ≤ maxLen) :
    Calls Tryz.prog 10 #[.agg #[.slice A n c]] w (LawEnd w) := by
  have H0 := Lib.hid h0; have HOK := Lib.hid hok
  have HTL := Lib.hid (h0.len tgC_len (by omega))
  clear h0 hok
  have hnm : n ≤ 9223372036854775807 := by unfold maxLen at hcm; omega
  obtain ⟨i0, hi, hzi0, hzi1, hzi2⟩ := info_parts infoStr
  have Hi := Lib.hid hi; have Hz0 := Lib.hid hzi0; have Hz1 := Lib.hid hzi1; have Hz2 := Lib.hid hzi2
  obtain ⟨i1, hj, hzj0, hzj1, hzj2⟩ := info_parts infoRls
  have Hj := Lib.hid hj; have Hy0 := Lib.hid hzj0; have Hy1 := Lib.hid hzj1; have Hy2 := Lib.hid hzj2
  obtain ⟨i2, hx, hzx0, hzx1, hzx2⟩ := info_parts infoFlB
  have Hx := Lib.hid hx; have Hx0 := Lib.hid hzx0; have Hx1 := Lib.hid hzx1; have Hx2 := Lib.hid hzx2
  obtain ⟨i3, hr, hzr0, hzr1, hzr2⟩ := info_parts infoRule
  have Hr := Lib.hid hr; have Hr0 := Lib.hid hzr0; have Hr1 := Lib.hid hzr1; have Hr2 := Lib.hid hzr2
  clear hi hzi0 hzi1 hzi2 hj hzj0 hzj1 hzj2 hx hzx0 hzx1 hzx2 hr hzr0 hzr1 hzr2
  obtain ⟨w0, hW0⟩ : ∃ W0, w.alloc (.cells #[.slice A n c] 27) = W0 := ⟨_, rfl⟩
  have HB0 : Hid (Below w.heap.size w w0) := by rw [← hW0]; exact (Below.refl _ w).alloc (Nat.le_refl _) _
  have HG0 : Hid (Bk w0 w.heap.size 27 #[.slice A n c]) := by rw [← hW0]; exact Bk.new w _ _
  have u0 := HG0.out.cell 0
  simp at u0
  have HGR := Lib.hid (rgreatS_any A n c w.heap.size ts w0 (H0.out.below HB0.out (Nat.le_refl _)) (fun t ht => (HOK.out t ht).below HB0.out (Nat.le_refl _)) hnc hcm)
  go_enter Tryz.func10, Tryz.ntmps10
  go_wp2_with fail
  refine HGR.out.mono ?_
  rintro e w1 ⟨r, rfl, hsm, rfl⟩
  cases r with
  | true =>
    clear hsm
    go_wp2_with fail
    refine (awake_any _).mono ?_
    rintro e wz ⟨rfl, hbz⟩
    have HBz := Lib.hid (HB0.out.trans (hbz.mono HB0.out.size)); clear hbz
    go_wp2_with fail
    go_ret
    exact ⟨rfl, HBz.out⟩

  | false =>
    obtain ⟨hn12, hsm⟩ := hsm rfl
    have HSM := Lib.hid hsm
    clear hsm HGR hW0
    have HV := Lib.hid (rvalid_any A n c w.heap.size ts w0 (H0.out.below HB0.out (Nat.le_refl _)) (fun t ht => (HOK.out t ht).below HB0.out (Nat.le_refl _)) HB0.out.size hnc hcm)
    go_wp2_with fail
    refine HV.out.mono ?_
    rintro e w2 ⟨r, rfl, hr, hb⟩
    have HB2 : Hid (Below w.heap.size w w2) := HB0.out.trans (hb.mono HB0.out.size)
    have HG2 := Lib.hid (HG0.out.below hb HG0.out.lt)
    clear hb u0 HV HB0 HG0
    have u0 := HG2.out.cell 0
    simp at u0
    cases r with
    | false =>
      clear hr
      go_wp2_with fail
      refine (awake_any _).mono ?_
      rintro e wz ⟨rfl, hbz⟩
      have HBz := Lib.hid (HB2.out.trans (hbz.mono HB2.out.size)); clear hbz
      go_wp2_with fail
      go_ret
      exact ⟨rfl, HBz.out⟩

    | true =>
    have HVL := Lib.hid (hr.1 rfl)
    have zg : w.heap.size < w2.heap.size := HG2.out.lt
    have HX2 : Hid (∀ t ∈ ts, TgOk w2 w2.heap.size t) := fun t ht => ((HOK.out t ht).below HB2.out (Nat.le_refl _)).up (by omega)
    obtain ⟨W3, hW3⟩ : ∃ W, (((w2.alloc (.cells #[] 9)).alloc (.cells #[] 58)).alloc (.cells #[] 42)) = W := ⟨_, rfl⟩
    have HB3 : Hid (Below w2.heap.size w2 W3) := by rw [← hW3]; exact (((Below.refl _ w2).alloc (Nat.le_refl _) _).alloc (by simp) _).alloc (by simp; omega) _
    have u3 := (HG2.out.below HB3.out zg).cell 0
    simp at u3
    clear hr
    go_wp2_with fail
    clear hW3
    go_loopw [3, 4, 5, 38] (fun d r f i wr => ∃ (k : Nat) (ds : List ByteArray) (rss : List (List Tg)) (Ad : Option Addr) (nd cd : Nat) (Ar : Option Addr) (nr cr : Nat) (Af : Option Addr) (nf cf : Nat) (vs : List Value), i = .int .i64 (k : Int) ∧ d = .slice Ad nd cd ∧ r = .slice Ar nr cr ∧ f = .slice Af nf cf ∧ k ≤ n ∧
      Hid (BdS w2.heap.size wr ds rss (modF (ts.take k)) Ad nd cd Ar nr cr Af nf cf vs) ∧ Hid (BdP ts k ds (rss.map (List.map ct))) ∧ Hid (VisU ts k) ∧ Hid (∀ x ∈ rss, x ≠ []) ∧ Hid (Below w2.heap.size w2 wr)) (fun _ _ _ i _ => n - (intOf i).toNat)
    case atStart =>
      exact ⟨0, [], [], _, 0, 0, _, 0, 0, _, 0, 0, [], rfl, rfl, rfl, rfl, Nat.zero_le _, BdS.start HB3.out.size, BdP.start ts, VisU.start ts, (fun x hx => by cases hx), HB3.out⟩
    case round =>
      obtain ⟨k, ds, rss, Ad, nd, cd, Ar, nr, cr, Af, nf, cf, vs, rfl, rfl, rfl, rfl, hk, hS, hP, hV, hN, hbw⟩ := hrel
      obtain rfl : nd = nr := nd_eq hS.out hP.out
      have hndk : nd ≤ k := nd_few hS.out hP.out hN.out
      have HDL : Hid (ds.length = nd) := hS.out.dlen
      have hnf : nf ≤ 12 := by have := hS.out.flen; simp [modF] at this; omega
      have zwr := hbw.out.size
      have HBw : Hid (Below w.heap.size w wr) := HB2.out.trans (hbw.out.mono HB2.out.size)
      by_cases hlt : k < n
      · have hlz : (k : Int) < (n : Int) := by omega
        obtain ⟨bb, off, t, rfl, hbB, ht, y0, y1, y2, y3⟩ := (H0.out.below HBw.out (Nat.le_refl _)).tg hlt
        have HT := Lib.hid ht
        have HTM := Lib.hid (List.mem_of_getElem? ht)
        have HTK := Lib.hid (HVL.out.all t HTM.out)
        obtain ⟨wb, hwb⟩ : ∃ wb, wr.alloc (.cells #[.string t.lab, .int .i64 t.kind, .slice t.dA t.dn t.dc, .slice t.vA t.vn t.vc] 35) = wb := ⟨_, rfl⟩
        have HBb : Hid (Below wr.heap.size wr wb) := by rw [← hwb]; exact (Below.refl _ wr).alloc (Nat.le_refl _) _
        have HKb : Hid (Bk wb wr.heap.size 35 #[.string t.lab, .int .i64 t.kind, .slice t.dA t.dn t.dc, .slice t.vA t.vn t.vc]) := by rw [← hwb]; exact Bk.new wr _ _
        have zwb : wb.heap.size = wr.heap.size + 1 := by rw [← hwb]; simp
        have HTO : Hid (TgOk w2 w2.heap.size t) := HX2.out t HTM.out
        have hdl := HTO.out.dlen
        have hdn : t.dn ≤ 12 := by have := (HSM.out t HTM.out).dn; omega
        have hls : t.lab.size ≤ 100 := (HSM.out t HTM.out).lab
        have HLB : Hid (labB t.lab = true) := HTK.out.lab
        have HDP : Hid (∀ d ∈ t.deps, ∃ o, findT ts d = some o) := fun d hd => by
          have h := HTK.out.dep d hd
          unfold kindOf at h
          cases hf : findT ts d with
          | none => rw [hf] at h; cases h
          | some o => exact ⟨o, rfl⟩
        have HSP := Lib.hid (bsplit_any t.lab wb (by omega) HLB.out)
        have x0 := HKb.out.cell 0
        simp at x0
        rw [← hwb] at x0
        have HWb := Lib.hid hwb
        clear hwb ht
        obtain ⟨lab, kind, dA, dn, dc, deps, vA, vn, vc, vis⟩ := t
        simp only at hdl hdn hls HLB y0 y1 y2 y3 HWb HKb HT HTM HTO x0 HDP HSP
        go_wp2_with fail
        rw [HWb.out]
        refine HSP.out.mono ?_
        rintro e w5 ⟨rfl, hb5⟩
        have HBo : Hid (Below wr.heap.size wr w5) := HBb.out.trans (hb5.mono (by omega))
        have HB5 : Hid (Below w2.heap.size w2 w5) := hbw.out.trans (HBo.out.mono zwr)
        have HK5 := Lib.hid (HKb.out.below hb5 (by omega))
        have z5 : wr.heap.size < w5.heap.size := HK5.out.lt
        clear hb5 HSP x0 y0 y1 y2 y3 HWb HKb HBb
        have HBw5 : Hid (Below w.heap.size w w5) := HB2.out.trans (HB5.out.mono HB2.out.size)
        have h1 : ((nmS lab).toList == [100, 101, 112, 115]) = decide (nmS lab = depsW) := str_lit _ _
        have h2 : ((nmS lab).toList == [118, 105, 115, 105, 98, 108, 101]) = decide (nmS lab = visibleW) := str_lit _ _
        have e0 := HK5.out.cell 0; have e2 := HK5.out.cell 2
        simp at e0 e2
        by_cases hd1 : nmS lab = depsW
        · rw [decide_eq_true hd1] at h1
          have h1' : ((nmS lab).toList == [100, 101, 112, 115]) = true := h1
          clear h1 h2 hd1
          go_wp2_with fail
          refine (awake_any _).mono ?_
          rintro e wz ⟨rfl, hbz⟩
          have HBz := Lib.hid (HBw5.out.trans (hbz.mono HBw5.out.size)); clear hbz
          go_wp2_with fail
          go_ret
          exact ⟨rfl, HBz.out⟩

        rw [decide_eq_false hd1] at h1
        have h1' : ((nmS lab).toList == [100, 101, 112, 115]) = false := h1
        by_cases hd2 : nmS lab = visibleW
        · rw [decide_eq_true hd2] at h2
          have h2' : ((nmS lab).toList == [118, 105, 115, 105, 98, 108, 101]) = true := h2
          clear h1 h2 hd1 hd2
          go_wp2_with fail
          refine (awake_any _).mono ?_
          rintro e wz ⟨rfl, hbz⟩
          have HBz := Lib.hid (HBw5.out.trans (hbz.mono HBw5.out.size)); clear hbz
          go_wp2_with fail
          go_ret
          exact ⟨rfl, HBz.out⟩

        rw [decide_eq_false hd2] at h2
        have h2' : ((nmS lab).toList == [118, 105, 115, 105, 98, 108, 101]) = false := h2
        clear h1 h2 hd1 hd2
        go_wp2_with fail
        obtain ⟨wo, hwo⟩ : ∃ wo, wo = wr := ⟨_, rfl⟩
        subst hwo
        go_loopw [67] (fun i wr => ∃ j : Nat, i = .int .i64 (j : Int) ∧ j ≤ dn ∧ Hid (∀ d ∈ deps.take j, ∀ o, findT ts d = some o → visT o.lab o.vis lab = true) ∧ Hid (Below w5.heap.size w5 wr)) (fun i _ => dn - (intOf i).toNat)
        case atStart => exact ⟨0, rfl, Nat.zero_le _, (fun d hd => by simp at hd), Below.refl _ _⟩
        case round =>
          obtain ⟨j, rfl, hj, hvi, hbr⟩ := hrel
          have zr := hbr.out.size
          have HB2r : Hid (Below w2.heap.size w2 wr) := HB5.out.trans (hbr.out.mono HB5.out.size)
          have HBwr : Hid (Below w.heap.size w wr) := HB2.out.trans (HB2r.out.mono HB2.out.size)
          by_cases hjl : j < dn
          · have hjz : (j : Int) < (dn : Int) := by omega
            obtain ⟨db, doff, d, hde, hdb, hd, q0⟩ := (HTO.out.below HB2r.out (Nat.le_refl _)).d.str_at hjl
            simp only at hde
            subst hde
            obtain ⟨o, hfo⟩ := HDP.out d (List.mem_of_getElem? hd)
            have HD := Lib.hid hd
            obtain ⟨wd, hwd⟩ : ∃ wd, wr.alloc (.cells #[.string d] 9) = wd := ⟨_, rfl⟩
            have HBd : Hid (Below wr.heap.size wr wd) := by rw [← hwd]; exact (Below.refl _ wr).alloc (Nat.le_refl _) _
            have HKd : Hid (Bk wd wr.heap.size 9 #[.string d]) := by rw [← hwd]; exact Bk.new wr _ _
            have s0 := HKd.out.cell 0
            simp at s0
            have HB5d : Hid (Below w5.heap.size w5 wd) := hbr.out.trans (HBd.out.mono zr)
            have HB2d : Hid (Below w2.heap.size w2 wd) := HB5.out.trans (HB5d.out.mono HB5.out.size)
            have HIX := Lib.hid (bds_any (some ⟨bb, off, none⟩) n c w.heap.size wr.heap.size ts d wd (H0.out.below (HB2.out.trans (HB2d.out.mono HB2.out.size)) (Nat.le_refl _)) (by have := HB2d.out.size; omega) (by omega) s0 HKd.out.lt)
            have HFO := Lib.hid hfo
            have v1 := (HG2.out.below HB2d.out zg).cell 0
            simp at v1
            have v1' := v1
            rw [← hwd] at v1'
            have HWd := Lib.hid hwd
            clear hwd hd hfo s0
            go_wp2_with fail
            rw [HWd.out]
            refine HIX.out.mono ?_
            rintro e w6 ⟨z, rfl, hz, hb6⟩
            obtain ⟨ki, o', rfl, hki, hfo'⟩ : ∃ (ki : Nat) (o' : Tg), z = (ki : Int) ∧ ts[ki]? = some o' ∧ findT ts d = some o' := by
              rcases hz with h | ⟨_, h⟩
              · exact h
              · rw [HFO.out] at h; cases h
            obtain rfl : o' = o := by rw [HFO.out] at hfo'; exact (Option.some.inj hfo').symm
            have HB56 : Hid (Below w5.heap.size w5 w6) := HB5d.out.trans (hb6.mono HB5d.out.size)
            have HB26 : Hid (Below w2.heap.size w2 w6) := HB5.out.trans (HB56.out.mono HB5.out.size)
            have HBw6 : Hid (Below w.heap.size w w6) := HB2.out.trans (HB26.out.mono HB2.out.size)
            have hkm : ki < n := by rw [← HTL.out]; exact (List.getElem?_eq_some_iff.1 hki).1
            obtain ⟨bb', off', o2, hpe, hbB', ht2, y0, y1, y2, y3⟩ := (H0.out.below HBw6.out (Nat.le_refl _)).tg hkm
            cases hpe
            obtain rfl : o2 = o' := by rw [hki] at ht2; exact (Option.some.inj ht2).symm
            have HOM := Lib.hid (List.mem_of_getElem? hki)
            have HOO : Hid (TgOk w6 w2.heap.size o2) := (HX2.out o2 HOM.out).below HB26.out (Nat.le_refl _)
            have hols : o2.lab.size ≤ 1000000 := by have := (HSM.out o2 HOM.out).lab; omega
            obtain ⟨vb, hvb⟩ : ∃ vb, visT o2.lab o2.vis lab = vb := ⟨_, rfl⟩
            have HVS : Hid (∀ W, Below w6.heap.size w6 W → Calls Tryz.prog 17 #[tgV o2, .string lab] W (VsbEnd vb W)) := fun W hW => by
              have := visible_any o2 lab w2.heap.size W (HOO.out.below hW (by have := HB26.out.size; omega)) (by have := hW.size; have := HB26.out.size; omega) hols (by omega)
              rwa [hvb] at this
            have HVN : Hid (vb = true → ∀ d ∈ deps.take (j + 1), ∀ o, findT ts d = some o → visT o.lab o.vis lab = true) := fun h => by
              refine all_step hvi.out HD.out fun o ho => ?_
              rw [HFO.out] at ho
              cases ho
              rw [hvb]; exact h
            have e0 := (HK5.out.below HB56.out z5).cell 0
            simp at e0
            have w0 := (HG2.out.below HB26.out zg).cell 0
            simp at w0
            have hk0 : ¬ (ki : Int) < 0 := by omega
            have hkz : (ki : Int) < (n : Int) := by omega
            have z56 := HB56.out.size
            have z26 := HB26.out.size
            clear hz hfo' ht2 hki hb6 HIX v1 v1' q0 e2 hvb
            obtain ⟨ol, okind, oA, on, oc, odeps, wA, wn, wc2, ovis⟩ := o2
            simp only [tgV] at y0 y1 y2 y3 HVS
            cases vb with
            | true =>
              go_wp2_with fail
              refine wp_region_stableGD 12 (75 :: 76 :: 77 :: 78 :: 79 :: 80 :: 81 :: 82 :: 83 :: 84 :: 85 :: 86 :: []) (by kernel_rfl) (by kernel_rfl) (by kernel_rfl) (fun W => Below w6.heap.size w6 W) (fun W W' => Below W.heap.size W W')
                (vPhi ((.int .i64 (ki : Int)) :: (.bool false) :: (.bool false) :: (.pointer (some ⟨w.heap.size, 0, none⟩)) :: (.slice (some ⟨bb, off, none⟩) n c) :: (.int .i64 (ki : Int)) :: (.pointer (some ⟨bb, off + ki * 4, none⟩)) :: (.agg #[.string ol, .int .i64 okind, .slice oA on oc, .slice wA wn wc2]) :: (.pointer (some ⟨wo.heap.size, 0, none⟩)) :: (.string lab) :: (.bool true) :: (.bool false) :: [])) (fun W W' h1 h2 => h1.trans (h2.mono h1.size)) (fun i v W W' h _ => h) (Below.refl _ _).drew ?stepT ?tailT
              case stepT =>
                intro i o vs W hi ho hv hR hphi
                obtain ⟨v0, v1, v2, v3, v4, v5, v6, v7, v8, v9, v10, v11, rfl⟩ := ls12 hv
                simp only [List.zip, List.zipWith, putAll, Act.put, List.setIfInBounds_toArray, List.set]
                have hWz := hR.size
                have g0 := (hR.cell (p := ⟨w.heap.size, 0, none⟩) (by show w.heap.size < _; omega)).trans w0
                have t0 := (hR.cell (p := ⟨wo.heap.size, 0, none⟩) (by show wo.heap.size < _; omega)).trans e0
                have o0 := (hR.cell (p := ⟨bb, off + ki * 4, none⟩) (by show bb < _; omega)).trans y0
                have o1 := (hR.cell (p := ⟨bb, off + ki * 4 + 1, none⟩) (by show bb < _; omega)).trans y1
                have o2 := (hR.cell (p := ⟨bb, off + ki * 4 + 2, none⟩) (by show bb < _; omega)).trans y2
                have o3 := (hR.cell (p := ⟨bb, off + ki * 4 + 3, none⟩) (by show bb < _; omega)).trans y3
                match i, hi, ho with
                | 0, _, rfl =>
                  exact .inl ⟨rfl, gives_value (v := .int .i64 (ki : Int)) (w' := W) (by go_simp) ⟨Below.refl _ _, fun u hu => by cases hu; rfl⟩⟩
                | 1, _, rfl =>
                  have e0 : v0 = _ := hphi ⟨0, .data⟩ (by simp) rfl v0 rfl _ rfl
                  subst e0
                  exact .inl ⟨rfl, gives_value (v := .bool false) (w' := W) (by go_simp) ⟨Below.refl _ _, fun u hu => by cases hu; rfl⟩⟩
                | 2, _, rfl =>
                  have e1 : v1 = _ := hphi ⟨1, .data⟩ (by simp) rfl v1 rfl _ rfl
                  subst e1
                  exact .inl ⟨rfl, gives_value (v := .bool false) (w' := W) (by go_simp) ⟨Below.refl _ _, fun u hu => by cases hu; rfl⟩⟩
                | 3, _, rfl =>
                  have e2 : v2 = _ := hphi ⟨2, .guard⟩ (by simp) rfl v2 rfl _ rfl
                  subst e2
                  exact .inl ⟨rfl, gives_value (v := .pointer (some ⟨w.heap.size, 0, none⟩)) (w' := W) (by go_simp) ⟨Below.refl _ _, fun u hu => by cases hu; rfl⟩⟩
                | 4, _, rfl =>
                  have e3 : v3 = _ := hphi ⟨3, .data⟩ (by simp) rfl v3 rfl _ rfl
                  have e2 : v2 = _ := hphi ⟨2, .guard⟩ (by simp) rfl v2 rfl _ rfl
                  subst e2 e3
                  exact .inl ⟨rfl, gives_value (v := .slice (some ⟨bb, off, none⟩) n c) (w' := W) (by go_simp) ⟨Below.refl _ _, fun u hu => by cases hu; rfl⟩⟩
                | 5, _, rfl =>
                  have e2 : v2 = _ := hphi ⟨2, .guard⟩ (by simp) rfl v2 rfl _ rfl
                  subst e2
                  exact .inl ⟨rfl, gives_value (v := .int .i64 (ki : Int)) (w' := W) (by go_simp) ⟨Below.refl _ _, fun u hu => by cases hu; rfl⟩⟩
                | 6, _, rfl =>
                  have e4 : v4 = _ := hphi ⟨4, .data⟩ (by simp) rfl v4 rfl _ rfl
                  have e5 : v5 = _ := hphi ⟨5, .data⟩ (by simp) rfl v5 rfl _ rfl
                  have e2 : v2 = _ := hphi ⟨2, .guard⟩ (by simp) rfl v2 rfl _ rfl
                  subst e2 e4 e5
                  exact .inl ⟨rfl, gives_value (v := .pointer (some ⟨bb, off + ki * 4, none⟩)) (w' := W) (by go_simp) ⟨Below.refl _ _, fun u hu => by cases hu; rfl⟩⟩
                | 7, _, rfl =>
                  have e6 : v6 = _ := hphi ⟨6, .data⟩ (by simp) rfl v6 rfl _ rfl
                  have e2 : v2 = _ := hphi ⟨2, .guard⟩ (by simp) rfl v2 rfl _ rfl
                  subst e2 e6
                  exact .inl ⟨rfl, gives_value (v := .agg #[.string ol, .int .i64 okind, .slice oA on oc, .slice wA wn wc2]) (w' := W) (by go_simp) ⟨Below.refl _ _, fun u hu => by cases hu; rfl⟩⟩
                | 8, _, rfl =>
                  have e2 : v2 = _ := hphi ⟨2, .guard⟩ (by simp) rfl v2 rfl _ rfl
                  subst e2
                  exact .inl ⟨rfl, gives_value (v := .pointer (some ⟨wo.heap.size, 0, none⟩)) (w' := W) (by go_simp) ⟨Below.refl _ _, fun u hu => by cases hu; rfl⟩⟩
                | 9, _, rfl =>
                  have e8 : v8 = _ := hphi ⟨8, .data⟩ (by simp) rfl v8 rfl _ rfl
                  have e2 : v2 = _ := hphi ⟨2, .guard⟩ (by simp) rfl v2 rfl _ rfl
                  subst e2 e8
                  exact .inl ⟨rfl, gives_value (v := .string lab) (w' := W) (by go_simp) ⟨Below.refl _ _, fun u hu => by cases hu; rfl⟩⟩
                | 10, _, rfl =>
                  have e7 : v7 = _ := hphi ⟨7, .data⟩ (by simp) rfl v7 rfl _ rfl
                  have e9 : v9 = _ := hphi ⟨9, .data⟩ (by simp) rfl v9 rfl _ rfl
                  have e2 : v2 = _ := hphi ⟨2, .guard⟩ (by simp) rfl v2 rfl _ rfl
                  subst e2 e7 e9
                  refine .inl ⟨rfl, gives_call (f := 17) (args := #[.agg #[.string ol, .int .i64 okind, .slice oA on oc, .slice wA wn wc2], .string lab]) (by go_simp) ((HVS.out W hR).mono ?_)⟩
                  rintro e W' ⟨rfl, hb2⟩
                  exact ⟨_, rfl, hb2, fun u hu => by cases hu; rfl⟩
                | 11, _, rfl =>
                  have e10 : v10 = _ := hphi ⟨10, .data⟩ (by simp) rfl v10 rfl _ rfl
                  have e2 : v2 = _ := hphi ⟨2, .guard⟩ (by simp) rfl v2 rfl _ rfl
                  subst e2 e10
                  exact .inl ⟨rfl, gives_value (v := .bool false) (w' := W) (by go_simp) ⟨Below.refl _ _, fun u hu => by cases hu; rfl⟩⟩
                | i + 12, hi, _ => exact absurd hi (by omega)
              case tailT =>
                intro vs W hv hR hphi
                obtain ⟨v0, v1, v2, v3, v4, v5, v6, v7, v8, v9, v10, v11, rfl⟩ := ls12 hv
                simp only [List.zip, List.zipWith, putAll, Act.put, List.setIfInBounds_toArray, List.set, List.drop]
                have e0 : v0 = _ := hphi 0 v0 rfl _ rfl
                have e1 : v1 = _ := hphi 1 v1 rfl _ rfl
                have e2 : v2 = _ := hphi 2 v2 rfl _ rfl
                have e3 : v3 = _ := hphi 3 v3 rfl _ rfl
                have e4 : v4 = _ := hphi 4 v4 rfl _ rfl
                have e5 : v5 = _ := hphi 5 v5 rfl _ rfl
                have e6 : v6 = _ := hphi 6 v6 rfl _ rfl
                have e7 : v7 = _ := hphi 7 v7 rfl _ rfl
                have e8 : v8 = _ := hphi 8 v8 rfl _ rfl
                have e9 : v9 = _ := hphi 9 v9 rfl _ rfl
                have e10 : v10 = _ := hphi 10 v10 rfl _ rfl
                have e11 : v11 = _ := hphi 11 v11 rfl _ rfl
                subst e0 e1 e2 e3 e4 e5 e6 e7 e8 e9 e10 e11
                clear hphi hv
                have HBz : Hid (Below w5.heap.size w5 W) := HB56.out.trans (hR.mono HB56.out.size)
                clear hR
                go_wp2_with fail
                go_roundw
                case rel => exact ⟨j + 1, by go_num, hjl, HVN.out (by simp), HBz.out⟩
                case measure => simp [intOf]; omega
            | false =>
              clear HVN
              go_wp2_with fail
              refine wp_region_stableGD 12 (75 :: 76 :: 77 :: 78 :: 79 :: 80 :: 81 :: 82 :: 83 :: 84 :: 85 :: 86 :: []) (by kernel_rfl) (by kernel_rfl) (by kernel_rfl) (fun W => Below w6.heap.size w6 W) (fun W W' => Below W.heap.size W W')
                (vPhi ((.int .i64 (ki : Int)) :: (.bool false) :: (.bool false) :: (.pointer (some ⟨w.heap.size, 0, none⟩)) :: (.slice (some ⟨bb, off, none⟩) n c) :: (.int .i64 (ki : Int)) :: (.pointer (some ⟨bb, off + ki * 4, none⟩)) :: (.agg #[.string ol, .int .i64 okind, .slice oA on oc, .slice wA wn wc2]) :: (.pointer (some ⟨wo.heap.size, 0, none⟩)) :: (.string lab) :: (.bool false) :: (.bool true) :: [])) (fun W W' h1 h2 => h1.trans (h2.mono h1.size)) (fun i v W W' h _ => h) (Below.refl _ _).drew ?stepF ?tailF
              case stepF =>
                intro i o vs W hi ho hv hR hphi
                obtain ⟨v0, v1, v2, v3, v4, v5, v6, v7, v8, v9, v10, v11, rfl⟩ := ls12 hv
                simp only [List.zip, List.zipWith, putAll, Act.put, List.setIfInBounds_toArray, List.set]
                have hWz := hR.size
                have g0 := (hR.cell (p := ⟨w.heap.size, 0, none⟩) (by show w.heap.size < _; omega)).trans w0
                have t0 := (hR.cell (p := ⟨wo.heap.size, 0, none⟩) (by show wo.heap.size < _; omega)).trans e0
                have o0 := (hR.cell (p := ⟨bb, off + ki * 4, none⟩) (by show bb < _; omega)).trans y0
                have o1 := (hR.cell (p := ⟨bb, off + ki * 4 + 1, none⟩) (by show bb < _; omega)).trans y1
                have o2 := (hR.cell (p := ⟨bb, off + ki * 4 + 2, none⟩) (by show bb < _; omega)).trans y2
                have o3 := (hR.cell (p := ⟨bb, off + ki * 4 + 3, none⟩) (by show bb < _; omega)).trans y3
                match i, hi, ho with
                | 0, _, rfl =>
                  exact .inl ⟨rfl, gives_value (v := .int .i64 (ki : Int)) (w' := W) (by go_simp) ⟨Below.refl _ _, fun u hu => by cases hu; rfl⟩⟩
                | 1, _, rfl =>
                  have e0 : v0 = _ := hphi ⟨0, .data⟩ (by simp) rfl v0 rfl _ rfl
                  subst e0
                  exact .inl ⟨rfl, gives_value (v := .bool false) (w' := W) (by go_simp) ⟨Below.refl _ _, fun u hu => by cases hu; rfl⟩⟩
                | 2, _, rfl =>
                  have e1 : v1 = _ := hphi ⟨1, .data⟩ (by simp) rfl v1 rfl _ rfl
                  subst e1
                  exact .inl ⟨rfl, gives_value (v := .bool false) (w' := W) (by go_simp) ⟨Below.refl _ _, fun u hu => by cases hu; rfl⟩⟩
                | 3, _, rfl =>
                  have e2 : v2 = _ := hphi ⟨2, .guard⟩ (by simp) rfl v2 rfl _ rfl
                  subst e2
                  exact .inl ⟨rfl, gives_value (v := .pointer (some ⟨w.heap.size, 0, none⟩)) (w' := W) (by go_simp) ⟨Below.refl _ _, fun u hu => by cases hu; rfl⟩⟩
                | 4, _, rfl =>
                  have e3 : v3 = _ := hphi ⟨3, .data⟩ (by simp) rfl v3 rfl _ rfl
                  have e2 : v2 = _ := hphi ⟨2, .guard⟩ (by simp) rfl v2 rfl _ rfl
                  subst e2 e3
                  exact .inl ⟨rfl, gives_value (v := .slice (some ⟨bb, off, none⟩) n c) (w' := W) (by go_simp) ⟨Below.refl _ _, fun u hu => by cases hu; rfl⟩⟩
                | 5, _, rfl =>
                  have e2 : v2 = _ := hphi ⟨2, .guard⟩ (by simp) rfl v2 rfl _ rfl
                  subst e2
                  exact .inl ⟨rfl, gives_value (v := .int .i64 (ki : Int)) (w' := W) (by go_simp) ⟨Below.refl _ _, fun u hu => by cases hu; rfl⟩⟩
                | 6, _, rfl =>
                  have e4 : v4 = _ := hphi ⟨4, .data⟩ (by simp) rfl v4 rfl _ rfl
                  have e5 : v5 = _ := hphi ⟨5, .data⟩ (by simp) rfl v5 rfl _ rfl
                  have e2 : v2 = _ := hphi ⟨2, .guard⟩ (by simp) rfl v2 rfl _ rfl
                  subst e2 e4 e5
                  exact .inl ⟨rfl, gives_value (v := .pointer (some ⟨bb, off + ki * 4, none⟩)) (w' := W) (by go_simp) ⟨Below.refl _ _, fun u hu => by cases hu; rfl⟩⟩
                | 7, _, rfl =>
                  have e6 : v6 = _ := hphi ⟨6, .data⟩ (by simp) rfl v6 rfl _ rfl
                  have e2 : v2 = _ := hphi ⟨2, .guard⟩ (by simp) rfl v2 rfl _ rfl
                  subst e2 e6
                  exact .inl ⟨rfl, gives_value (v := .agg #[.string ol, .int .i64 okind, .slice oA on oc, .slice wA wn wc2]) (w' := W) (by go_simp) ⟨Below.refl _ _, fun u hu => by cases hu; rfl⟩⟩
                | 8, _, rfl =>
                  have e2 : v2 = _ := hphi ⟨2, .guard⟩ (by simp) rfl v2 rfl _ rfl
                  subst e2
                  exact .inl ⟨rfl, gives_value (v := .pointer (some ⟨wo.heap.size, 0, none⟩)) (w' := W) (by go_simp) ⟨Below.refl _ _, fun u hu => by cases hu; rfl⟩⟩
                | 9, _, rfl =>
                  have e8 : v8 = _ := hphi ⟨8, .data⟩ (by simp) rfl v8 rfl _ rfl
                  have e2 : v2 = _ := hphi ⟨2, .guard⟩ (by simp) rfl v2 rfl _ rfl
                  subst e2 e8
                  exact .inl ⟨rfl, gives_value (v := .string lab) (w' := W) (by go_simp) ⟨Below.refl _ _, fun u hu => by cases hu; rfl⟩⟩
                | 10, _, rfl =>
                  have e7 : v7 = _ := hphi ⟨7, .data⟩ (by simp) rfl v7 rfl _ rfl
                  have e9 : v9 = _ := hphi ⟨9, .data⟩ (by simp) rfl v9 rfl _ rfl
                  have e2 : v2 = _ := hphi ⟨2, .guard⟩ (by simp) rfl v2 rfl _ rfl
                  subst e2 e7 e9
                  refine .inl ⟨rfl, gives_call (f := 17) (args := #[.agg #[.string ol, .int .i64 okind, .slice oA on oc, .slice wA wn wc2], .string lab]) (by go_simp) ((HVS.out W hR).mono ?_)⟩
                  rintro e W' ⟨rfl, hb2⟩
                  exact ⟨_, rfl, hb2, fun u hu => by cases hu; rfl⟩
                | 11, _, rfl =>
                  have e10 : v10 = _ := hphi ⟨10, .data⟩ (by simp) rfl v10 rfl _ rfl
                  have e2 : v2 = _ := hphi ⟨2, .guard⟩ (by simp) rfl v2 rfl _ rfl
                  subst e2 e10
                  exact .inl ⟨rfl, gives_value (v := .bool true) (w' := W) (by go_simp) ⟨Below.refl _ _, fun u hu => by cases hu; rfl⟩⟩
                | i + 12, hi, _ => exact absurd hi (by omega)
              case tailF =>
                intro vs W hv hR hphi
                obtain ⟨v0, v1, v2, v3, v4, v5, v6, v7, v8, v9, v10, v11, rfl⟩ := ls12 hv
                simp only [List.zip, List.zipWith, putAll, Act.put, List.setIfInBounds_toArray, List.set, List.drop]
                have e0 : v0 = _ := hphi 0 v0 rfl _ rfl
                have e1 : v1 = _ := hphi 1 v1 rfl _ rfl
                have e2 : v2 = _ := hphi 2 v2 rfl _ rfl
                have e3 : v3 = _ := hphi 3 v3 rfl _ rfl
                have e4 : v4 = _ := hphi 4 v4 rfl _ rfl
                have e5 : v5 = _ := hphi 5 v5 rfl _ rfl
                have e6 : v6 = _ := hphi 6 v6 rfl _ rfl
                have e7 : v7 = _ := hphi 7 v7 rfl _ rfl
                have e8 : v8 = _ := hphi 8 v8 rfl _ rfl
                have e9 : v9 = _ := hphi 9 v9 rfl _ rfl
                have e10 : v10 = _ := hphi 10 v10 rfl _ rfl
                have e11 : v11 = _ := hphi 11 v11 rfl _ rfl
                subst e0 e1 e2 e3 e4 e5 e6 e7 e8 e9 e10 e11
                clear hphi hv
                have HBW : Hid (Below w.heap.size w W) := HBw6.out.trans (hR.mono HBw6.out.size)
                clear hR
                go_wp2_with fail
                refine (awake_any _).mono ?_
                rintro e wz ⟨rfl, hbz⟩
                have HBz := Lib.hid (HBW.out.trans (hbz.mono HBW.out.size)); clear hbz
                go_wp2_with fail
                go_ret
                exact ⟨rfl, HBz.out⟩
          · have hjz : ¬ (j : Int) < (dn : Int) := by omega
            have HVK : Hid (VisU ts (k + 1)) := hV.out.step HT.out (by
              have := hvi.out
              rwa [List.take_of_length_le (by omega)] at this)
            have HBor : Hid (Below wo.heap.size wo wr) := HBo.out.trans (hbr.out.mono (by omega))
            have HSr := Lib.hid (hS.out.below HBor.out)
            have HTB : Hid (TBox w2.heap.size wr wo.heap.size ⟨lab, kind, dA, dn, dc, deps, vA, vn, vc, vis⟩) := TBox.of (HK5.out.below hbr.out z5) zwr
            have HIX := Lib.hid (indexS_any Ad nd cd wr.heap.size ds (dirS lab) wr HSr.out.d.sl (by unfold maxLen; omega))
            generalize hdr' : dirS lab = dr at HIX
            have HDR := Lib.hid hdr'
            clear hdr' hvi e0 e2
            obtain ⟨wq, hwq⟩ : ∃ wq, wq = wr := ⟨_, rfl⟩
            subst hwq
            go_wp2_with fail
            refine HIX.out.mono ?_
            rintro e w7 ⟨⟨z, rfl, hz⟩, rfl⟩
            have HZ := Lib.hid hz
            clear hz HIX
            go_upto_if 94 with fail
            go_cut [3, 4, 14] from 94 to 103 (fun d r q wx => ∃ (ds' : List ByteArray) (rss' : List (List Tg)) (Ad' : Option Addr) (nd' cd' : Nat) (Ar' : Option Addr) (cr' : Nat) (vs' : List Value) (q' : Nat), d = .slice Ad' nd' cd' ∧ r = .slice Ar' nd' cr' ∧ q = .int .i64 (q' : Int) ∧
              Hid (BdC ts k ⟨lab, kind, dA, dn, dc, deps, vA, vn, vc, vis⟩ (modF (ts.take k)) w2 wo.heap.size wx ds' rss' Ad' nd' cd' Ar' cr' Af nf cf vs' q'))
            case first =>
              rcases HZ.out with ⟨rfl, hnd⟩ | ⟨q, rfl, hq, _⟩
              · have HND := Lib.hid hnd
                clear hnd HZ
                go_wp2_with (at_builtin; refine halt_appB (.tmp 97) (.tmp 99) 33 rfl ?_)
                refine unhalt ?_
                refine wpList_append_apd (base := w2.heap.size) (size := 1) _ rfl (.tmp 97) (.tmp 99) 33 rfl 9 i0 _ 16 Tryz.underlying33 Hi.out Hz0.out Hz1.out Hz2.out rfl (by decide) Ad nd cd (strs ds) rfl ?own_1 (w7.heap.size + 1) _ 1 _ (strs [dr]) rfl ?nw_1 (one_strB dr) ?m1_1 ?m2_1 ?m3_1 ?_
                case own_1 => exact HSr.out.d.below ((Below.refl _ w7).alloc (Nat.le_refl _) _)
                case nw_1 => exact slOne w7 dr
                case m1_1 => unfold maxLen; omega
                case m2_1 => omega
                case m3_1 => simp; omega
                intro A8 c8 w8 ha8 hb8 hn8 hm8 hok8
                rw [← strs_snoc] at ha8
                have HSa := Lib.hid (BdS.addD (HSr.out.below ((Below.refl _ w7).alloc (Nat.le_refl _) (.cells #[.string dr] 9))) ha8 hb8 hok8)
                have HTa := Lib.hid ((HTB.out.below ((Below.refl _ w7).alloc (Nat.le_refl _) (.cells #[.string dr] 9))).kept hok8 (by decide))
                have HBa : Hid (Below w2.heap.size w2 w8) := (HB2r.out.alloc HB2r.out.size _).trans hb8
                clear ha8 hb8 hok8 hn8 hm8
                go_wp2_with (at_builtin; refine halt_appB (.tmp 101) (.tmp 102) 55 rfl ?_)
                refine unhalt ?_
                refine wpList_append_apd (base := w2.heap.size) (size := 1) _ rfl (.tmp 101) (.tmp 102) 55 rfl 58 i1 _ 24 Tryz.underlying55 Hj.out Hy0.out Hy1.out Hy2.out rfl (by decide) Ar nd cr vs rfl ?own_2 (w8.heap.size + 1) _ 1 _ [.slice none 0 0] rfl ?nw_2 (by simp [Value.oneCell']) ?m1_2 ?m2_2 ?m3_2 ?_
                case own_2 => exact HSa.out.r.below ((Below.refl _ w8).alloc (Nat.le_refl _) _)
                case nw_2 => exact ⟨rfl, fun _ => ⟨w8.heap.size, 0, rfl, Nat.lt_succ_self _, fun j u hu => by have := new_cells w8 58 [.slice none 0 0] j u hu; rwa [Addr.add_lit] at this⟩⟩
                case m1_2 => unfold maxLen; omega
                case m2_2 => omega
                case m3_2 => have := HBa.out.size; simp; omega
                intro A9 c9 w9 ha9 hb9 hn9 hm9 hok9
                have HSb := Lib.hid (BdS.addR (HSa.out.below ((Below.refl _ w8).alloc (Nat.le_refl _) (.cells #[.slice none 0 0] 58))) ha9 hb9 hok9)
                have HTb := Lib.hid ((HTa.out.below ((Below.refl _ w8).alloc (Nat.le_refl _) (.cells #[.slice none 0 0] 58))).kept hok9 (by decide))
                have HBb : Hid (Below w2.heap.size w2 w9) := (HBa.out.alloc HBa.out.size _).trans hb9
                clear ha9 hb9 hok9 hn9 hm9
                go_wp2_with fail
                go_meet
                exact ⟨_, _, _, _, _, _, _, _, nd, rfl, rfl, rfl, BdC.new (by have := HSb.out; rw [← HDR.out] at this; exact this) HDL.out hP.out hN.out (by omega) hndk HT.out HLB.out (by show dirS lab ∉ ds; rw [HDR.out]; exact HND.out) HTb.out HBb.out⟩
              · have HQ := Lib.hid hq
                have hq0 : ¬ (q : Int) < 0 := by omega
                clear hq HZ
                go_wp2_with fail
                go_meet
                exact ⟨ds, rss, Ad, nd, cd, Ar, cr, vs, q, rfl, rfl, rfl, BdC.old HSr.out hP.out hN.out (by omega) HT.out HLB.out (by show ds[q]? = some (dirS lab); rw [HDR.out]; exact HQ.out) HTB.out HB2r.out⟩
            case rest =>
              obtain ⟨ds', rss', Ad', nd', cd', Ar', cr', vs', q, rfl, rfl, rfl, hC⟩ := hcut
              obtain ⟨wt, hwt⟩ : ∃ W, W = wc := ⟨_, rfl⟩
              subst hwt
              have hql := hC.out.lt
              have hn13 := hC.out.few
              obtain ⟨gr, Ai, ni, ci, rs, rfl, hgr, hgl, hv, hr, hnl, hni, hci, hown, g0, f0⟩ := hC.out.s.at_ hql
              have HVv := Lib.hid hv; have HRr := Lib.hid hr; have HNL := Lib.hid hnl
              have hni12 : ni ≤ 13 := by
                have h := (hC.out.p rs hr).sum (j := q) (rs := (rs ++ [rlT ⟨lab, kind, dA, dn, dc, deps, vA, vn, vc, vis⟩]).map ct) (by
                  rw [List.getElem?_map, List.getElem?_set_self (List.getElem?_eq_some_iff.1 hr).1]; rfl)
                rw [List.length_map, List.length_append, List.length_singleton] at h
                omega
              obtain ⟨b0, b1, b2, b3⟩ := hC.out.b.cells
              simp only at b0 b1 b2 b3
              have HOr : Hid (TgOk wt w2.heap.size (rlT ⟨lab, kind, dA, dn, dc, deps, vA, vn, vc, vis⟩)) := (HTO.out.below hC.out.below (Nat.le_refl _)).rlT
              have hwt : wo.heap.size < wt.heap.size := (HTBlt hC.out.b)
              have hq0 : ¬ (q : Int) < 0 := by omega
              have hqz : (q : Int) < (nd' : Int) := by omega
              have HC := hC
              clear hv hr hnl hown hC
              go_wp2_with fail
              refine wp_region_turnGD 16 15 (104 :: 105 :: 106 :: 107 :: 108 :: 109 :: 110 :: 111 :: 112 :: 113 :: 114 :: 115 :: 116 :: 117 :: 118 :: 119 :: []) (by kernel_rfl) (by kernel_rfl) (by kernel_rfl) (fun b W => match b with | false => Below wt.heap.size wt W | true => TBox w2.heap.size W wo.heap.size ⟨lab, kind, dA, dn, dc, deps, vA, vn, vc, vis⟩) (fun b W W' => match b with | false => Below W.heap.size W W' | true => W' = W)
                (fun i v W => if i = 15 then AdI w2.heap.size wt ds' rss' (modF (ts.take k)) Ad' nd' cd' gr nd' cr' Af nf cf vs' q Ai ni ci rs (rlT ⟨lab, kind, dA, dn, dc, deps, vA, vn, vc, vis⟩) wo.heap.size ⟨lab, kind, dA, dn, dc, deps, vA, vn, vc, vis⟩ v W else asPhi 14 ((.slice (some ⟨gr, 0, none⟩) nd' cr') :: (.int .i64 (q : Int)) :: (.slice (some ⟨gr, 0, none⟩) nd' cr') :: (.int .i64 (q : Int)) :: (.pointer (some ⟨gr, q, none⟩)) :: (.slice Ai ni ci) :: (.pointer (some ⟨wo.heap.size, 1, none⟩)) :: (.int .i64 kind) :: (.string (nmS lab)) :: (.pointer (some ⟨wo.heap.size, 2, none⟩)) :: (.slice dA dn dc) :: (.pointer (some ⟨wo.heap.size, 3, none⟩)) :: (.slice vA vn vc) :: (.agg #[.int .i64 kind, .string (nmS lab), .slice dA dn dc, .slice vA vn vc]) :: (undef) :: []) wt.heap.size 60 #[.int .i64 kind, .string (nmS lab), .slice dA dn dc, .slice vA vn vc] i v W) ?hRx ?hPhix (Below.refl _ _).drew ?stepx ?turnx (by decide) ?tailx
              case hRx =>
                intro b W W' h1 h2
                cases b with
                | false => exact Below.trans h1 (Below.mono h2 (Below.size h1))
                | true => have h3 : W' = W := h2; rw [h3]; exact h1
              case hPhix =>
                intro b i v W W' hb h1 h2
                cases b with
                | true => have h3 : W' = W := h2; rw [h3]; exact h1
                | false =>
                  by_cases e : i = 15
                  · cases hb e
                  · simp only [if_neg e] at h1 ⊢; exact asPhi_keep i v W W' h1 h2
              case stepx =>
                intro b i o vs W hi hne hbd ho hv hR hphi
                obtain ⟨v0, v1, v2, v3, v4, v5, v6, v7, v8, v9, v10, v11, v12, v13, v14, v15, rfl⟩ := ls16 hv
                simp only [List.zip, List.zipWith, putAll, Act.put, List.setIfInBounds_toArray, List.set]
                have c1 : W.cell? ⟨wo.heap.size, 1, none⟩ = some (.int .i64 kind) := by
                  cases b with
                  | false => exact (Below.cell hR (p := ⟨wo.heap.size, 1, none⟩) hwt).trans b1
                  | true => exact (TBox.cells hR).2.1
                have c2 : W.cell? ⟨wo.heap.size, 2, none⟩ = some (.slice dA dn dc) := by
                  cases b with
                  | false => exact (Below.cell hR (p := ⟨wo.heap.size, 2, none⟩) hwt).trans b2
                  | true => exact (TBox.cells hR).2.2.1
                have c3 : W.cell? ⟨wo.heap.size, 3, none⟩ = some (.slice vA vn vc) := by
                  cases b with
                  | false => exact (Below.cell hR (p := ⟨wo.heap.size, 3, none⟩) hwt).trans b3
                  | true => exact (TBox.cells hR).2.2.2
                have hE : (fun (b : Bool) (W W' : World) => match b with | false => Below W.heap.size W W' | true => W' = W) b W W := by
                  cases b with
                  | false => exact Below.refl _ _
                  | true => rfl
                match i, hi, ho with
                | 0, _, rfl =>
                  exact .inl ⟨rfl, gives_value (v := .slice (some ⟨gr, 0, none⟩) nd' cr') (w' := W) (by go_simp) ⟨hE, fun u hu => by cases hu; rfl⟩⟩
                | 1, _, rfl =>
                  exact .inl ⟨rfl, gives_value (v := .int .i64 (q : Int)) (w' := W) (by go_simp) ⟨hE, fun u hu => by cases hu; rfl⟩⟩
                | 2, _, rfl =>
                  exact .inl ⟨rfl, gives_value (v := .slice (some ⟨gr, 0, none⟩) nd' cr') (w' := W) (by go_simp) ⟨hE, fun u hu => by cases hu; rfl⟩⟩
                | 3, _, rfl =>
                  exact .inl ⟨rfl, gives_value (v := .int .i64 (q : Int)) (w' := W) (by go_simp) ⟨hE, fun u hu => by cases hu; rfl⟩⟩
                | 4, _, rfl =>
                  have e2 : v2 = _ := hphi ⟨2, .data⟩ (by simp) rfl v2 rfl _ rfl
                  have e3 : v3 = _ := hphi ⟨3, .data⟩ (by simp) rfl v3 rfl _ rfl
                  subst e2 e3
                  exact .inl ⟨rfl, gives_value (v := .pointer (some ⟨gr, q, none⟩)) (w' := W) (by go_simp) ⟨hE, fun u hu => by cases hu; rfl⟩⟩
                | 5, _, rfl =>
                  have e4 : v4 = _ := hphi ⟨4, .data⟩ (by simp) rfl v4 rfl _ rfl
                  subst e4
                  have hb0 : b = false := hbd _ rfl ⟨⟨5, .data⟩, by simp, rfl, rfl⟩
                  subst hb0
                  have g1 := (Below.cell hR (p := ⟨gr, q, none⟩) hgl).trans g0
                  exact .inl ⟨rfl, gives_value (v := .slice Ai ni ci) (w' := W) (by go_simp) ⟨hE, fun u hu => by cases hu; rfl⟩⟩
                | 6, _, rfl =>
                  exact .inl ⟨rfl, gives_value (v := .pointer (some ⟨wo.heap.size, 1, none⟩)) (w' := W) (by go_simp) ⟨hE, fun u hu => by cases hu; rfl⟩⟩
                | 7, _, rfl =>
                  have e6 : v6 = _ := hphi ⟨6, .data⟩ (by simp) rfl v6 rfl _ rfl
                  subst e6
                  exact .inl ⟨rfl, gives_value (v := .int .i64 kind) (w' := W) (by go_simp) ⟨hE, fun u hu => by cases hu; rfl⟩⟩
                | 8, _, rfl =>
                  exact .inl ⟨rfl, gives_value (v := .string (nmS lab)) (w' := W) (by go_simp) ⟨hE, fun u hu => by cases hu; rfl⟩⟩
                | 9, _, rfl =>
                  exact .inl ⟨rfl, gives_value (v := .pointer (some ⟨wo.heap.size, 2, none⟩)) (w' := W) (by go_simp) ⟨hE, fun u hu => by cases hu; rfl⟩⟩
                | 10, _, rfl =>
                  have e9 : v9 = _ := hphi ⟨9, .data⟩ (by simp) rfl v9 rfl _ rfl
                  subst e9
                  exact .inl ⟨rfl, gives_value (v := .slice dA dn dc) (w' := W) (by go_simp) ⟨hE, fun u hu => by cases hu; rfl⟩⟩
                | 11, _, rfl =>
                  exact .inl ⟨rfl, gives_value (v := .pointer (some ⟨wo.heap.size, 3, none⟩)) (w' := W) (by go_simp) ⟨hE, fun u hu => by cases hu; rfl⟩⟩
                | 12, _, rfl =>
                  have e11 : v11 = _ := hphi ⟨11, .data⟩ (by simp) rfl v11 rfl _ rfl
                  subst e11
                  exact .inl ⟨rfl, gives_value (v := .slice vA vn vc) (w' := W) (by go_simp) ⟨hE, fun u hu => by cases hu; rfl⟩⟩
                | 13, _, rfl =>
                  have e7 : v7 = _ := hphi ⟨7, .data⟩ (by simp) rfl v7 rfl _ rfl
                  have e8 : v8 = _ := hphi ⟨8, .data⟩ (by simp) rfl v8 rfl _ rfl
                  have e10 : v10 = _ := hphi ⟨10, .data⟩ (by simp) rfl v10 rfl _ rfl
                  have e12 : v12 = _ := hphi ⟨12, .data⟩ (by simp) rfl v12 rfl _ rfl
                  subst e7 e8 e10 e12
                  exact .inl ⟨rfl, gives_value (v := .agg #[.int .i64 kind, .string (nmS lab), .slice dA dn dc, .slice vA vn vc]) (w' := W) (by go_simp) ⟨hE, fun u hu => by cases hu; rfl⟩⟩
                | 14, _, rfl =>
                  have e13 : v13 = _ := hphi ⟨13, .data⟩ (by simp) rfl v13 rfl _ rfl
                  subst e13
                  have hb0 : b = false := hbd _ rfl ⟨⟨14, .data⟩, by simp, rfl, rfl⟩
                  subst hb0
                  exact .inl ⟨rfl, gives_value (v := .slice (some ⟨W.heap.size, 0, none⟩) 1 1) (w' := W.alloc (.cells #[.int .i64 kind, .string (nmS lab), .slice dA dn dc, .slice vA vn vc] 60)) (by go_simp) ⟨(Below.refl _ W).alloc (Nat.le_refl _) _, W.heap.size, rfl, Below.size hR, Bk.new W _ _⟩⟩
                | 15, _, _ => exact absurd rfl hne
                | i + 16, hi, _ => exact absurd hi (by omega)
              case turnx =>
                intro o vs W ho hv hR hphi
                obtain ⟨v0, v1, v2, v3, v4, v5, v6, v7, v8, v9, v10, v11, v12, v13, v14, v15, rfl⟩ := ls16 hv
                cases ho
                simp only [List.zip, List.zipWith, putAll, Act.put, List.setIfInBounds_toArray, List.set]
                have e5 : v5 = _ := hphi ⟨5, .data⟩ (by simp) rfl v5 rfl _ rfl
                obtain ⟨ab, ea, hab, hak⟩ : ∃ b0, v14 = .slice (some ⟨b0, 0, none⟩) 1 1 ∧ wt.heap.size ≤ b0 ∧ Bk W b0 60 #[.int .i64 kind, .string (nmS lab), .slice dA dn dc, .slice vA vn vc] := hphi ⟨14, .data⟩ (by simp) rfl v14 rfl
                subst e5 ea
                refine .inl ⟨rfl, gives_addI (.tmp 109) (.tmp 118) 58 rfl i3 _ Tryz.underlying58 Hr.out Hr0.out Hr1.out Hr2.out rfl hR HC.out.s hql HVv.out HRr.out HNL.out HOr.out HC.out.b rfl rfl hak (by omega) ?_⟩
                intro v w1 h1 h2 h3
                refine ⟨h2, h1, fun i u hi hu => ?_⟩
                simp only [if_neg hi] at hu ⊢
                unfold asPhi at hu ⊢
                by_cases e : i = 14
                · rw [if_pos e] at hu ⊢
                  obtain ⟨b0, p1, p2, p3⟩ := hu
                  exact ⟨b0, p1, p2, (h3 b0 p2 p3.lt).trans p3⟩
                · rw [if_neg e] at hu ⊢; exact hu
              case tailx =>
                intro vs W hv hR hphi
                obtain ⟨v0, v1, v2, v3, v4, v5, v6, v7, v8, v9, v10, v11, v12, v13, v14, v15, rfl⟩ := ls16 hv
                simp only [List.zip, List.zipWith, putAll, Act.put, List.setIfInBounds_toArray, List.set, List.drop]
                have e0 : v0 = _ := hphi 0 v0 rfl _ rfl
                have e1 : v1 = _ := hphi 1 v1 rfl _ rfl
                have e2 : v2 = _ := hphi 2 v2 rfl _ rfl
                have e3 : v3 = _ := hphi 3 v3 rfl _ rfl
                have e4 : v4 = _ := hphi 4 v4 rfl _ rfl
                have e5 : v5 = _ := hphi 5 v5 rfl _ rfl
                have e6 : v6 = _ := hphi 6 v6 rfl _ rfl
                have e7 : v7 = _ := hphi 7 v7 rfl _ rfl
                have e8 : v8 = _ := hphi 8 v8 rfl _ rfl
                have e9 : v9 = _ := hphi 9 v9 rfl _ rfl
                have e10 : v10 = _ := hphi 10 v10 rfl _ rfl
                have e11 : v11 = _ := hphi 11 v11 rfl _ rfl
                have e12 : v12 = _ := hphi 12 v12 rfl _ rfl
                have e13 : v13 = _ := hphi 13 v13 rfl _ rfl
                obtain ⟨ab, ea, hab, hak⟩ : ∃ b0, v14 = .slice (some ⟨b0, 0, none⟩) 1 1 ∧ wt.heap.size ≤ b0 ∧ Bk W b0 60 #[.int .i64 kind, .string (nmS lab), .slice dA dn dc, .slice vA vn vc] := hphi 14 v14 rfl
                obtain ⟨g8, c8, ev, hc8, hf8, hS8, hB8, hT8⟩ : AdI w2.heap.size wt ds' rss' (modF (ts.take k)) Ad' nd' cd' gr nd' cr' Af nf cf vs' q Ai ni ci rs (rlT ⟨lab, kind, dA, dn, dc, deps, vA, vn, vc, vis⟩) wo.heap.size ⟨lab, kind, dA, dn, dc, deps, vA, vn, vc, vis⟩ v15 W := hphi 15 v15 rfl
                subst e0 e1 e2 e3 e4 e5 e6 e7 e8 e9 e10 e11 e12 e13 ea ev
                have HS8 := Lib.hid hS8; have HB8 := Lib.hid hB8; have HT8 := Lib.hid hT8
                clear hphi hv hR hS8 hB8 hT8 hak hab
                obtain ⟨w8, hw8⟩ : ∃ w8, w8 = W := ⟨_, rfl⟩
                subst hw8
                obtain ⟨W9, hW9⟩ : ∃ W9, w8.setCell ⟨gr, q, none⟩ (.slice (some ⟨g8, 0, none⟩) (ni + 1) c8) = W9 := ⟨_, rfl⟩
                rw [hW9] at HS8 HB8 HT8
                obtain ⟨d0, _, _, _⟩ := HT8.out.cells
                simp only at d0
                have HB9 : Hid (Below w2.heap.size w2 W9) := HC.out.below.trans HB8.out
                have hsz : ¬ (9223372036854775807 < lab.size + pkW.size) := by have : pkW.size = 3 := rfl; omega
                clear g0 f0 b0 b1 b2 b3 hwt
                go_wp2_with (at_builtin; refine halt_appB (.tmp 121) (.tmp 126) 22 rfl ?_)
                refine unhalt ?_
                clear hW9 hc8 hf8
                refine wpList_append_apd (base := w2.heap.size) (size := 2) _ rfl (.tmp 121) (.tmp 126) 22 rfl 42 i2 _ 32 Tryz.underlying22 Hx.out Hx0.out Hx1.out Hx2.out rfl (by decide) Af nf cf (flat flC (modF (ts.take k))) rfl ?own_3 (W9.heap.size + 1) _ 1 _ (flat flC [(lab ++ pkW, ⟨#[]⟩)]) rfl ?nw_3 (one_flB _) ?m1_3 ?m2_3 ?m3_3 ?_
                case own_3 => exact HS8.out.f.below ((Below.refl _ W9).alloc (Nat.le_refl _) _)
                case nw_3 =>
                  have := Sl.of_bk (n := 1) (size := 2) (Bk.new W9 42 #[.string (lab ++ pkW), .string ⟨#[]⟩]) rfl
                  rw [World.size_alloc] at this; exact this
                case m1_3 => unfold maxLen; omega
                case m2_3 => omega
                case m3_3 => have := HB9.out.size; simp; omega
                intro A10 c10 w10 ha10 hb10 hn10 hm10 hok10
                rw [← flat_append] at ha10
                have HS10 := Lib.hid (BdS.addF (HS8.out.below ((Below.refl _ W9).alloc (Nat.le_refl _) (.cells #[.string (lab ++ pkW), .string ⟨#[]⟩] 42))) ha10 hb10 hok10)
                have HB10 : Hid (Below w2.heap.size w2 w10) := (HB9.out.alloc HB9.out.size _).trans hb10
                clear ha10 hb10 hn10 hm10 hok10 d0
                go_wp2_with fail
                go_roundw
                case rel => exact ⟨k + 1, _, _, _, _, _, _, _, _, _, _, _, _, by go_num, rfl, rfl, rfl, hlt, by rw [modF_snoc HT.out]; exact HS10.out, HC.out.p _ HRr.out, HVK.out, HC.out.n _ HRr.out, HB10.out⟩
                case measure => simp [intOf]; omega
      · have hlz : ¬ (k : Int) < (n : Int) := by omega
        have hkn : n = k := by omega
        subst hkn
        have HTN : Hid (ts.take n = ts) := List.take_of_length_le (by rw [HTL.out]; exact Nat.le_refl _)
        have HS1 : Hid (BdS w2.heap.size wr ds rss (modF ts ++ []) Ad nd cd Ar nd cr Af nf cf vs) := by have := hS.out; rw [HTN.out] at this; rw [List.append_nil]; exact this
        have HVA : Hid (∀ t ∈ ts, ∀ d ∈ t.deps, ∀ o, findT ts d = some o → visT o.lab o.vis t.lab = true) := by have := hV.out; unfold VisU at this; rwa [HTN.out] at this
        have HP1 : Hid (BdP ts ts.length ds (rss.map (List.map ct))) := by show BdP _ _ _ _; rw [HTL.out]; exact hP.out
        have HBp := hbw
        obtain ⟨wp, hwp⟩ : ∃ W, W = wr := ⟨_, rfl⟩
        subst hwp
        clear hS hV hnf
        go_wp2_with fail
        go_loopw [5, 131] (fun f i wr => ∃ (j : Nat) (bs : List Fl) (Af2 : Option Addr) (nf2 cf2 : Nat), i = .int .i64 (j : Int) ∧ f = .slice Af2 nf2 cf2 ∧ j ≤ nd ∧ Hid (BdS w2.heap.size wr ds rss (modF ts ++ bs) Ad nd cd Ar nd cr Af2 nf2 cf2 vs) ∧ Hid (BldU ds rss bs j) ∧ Hid (Below w2.heap.size w2 wr)) (fun _ i _ => nd - (intOf i).toNat)
        case atStart => exact ⟨0, [], Af, nf, cf, rfl, rfl, Nat.zero_le _, HS1.out, BldU.start _ _, HBp.out⟩
        case round =>
          obtain ⟨j, bs, Af2, nf2, cf2, rfl, rfl, hj, hS2, hU, hbr⟩ := hrel
          have HBwr : Hid (Below w.heap.size w wr) := HB2.out.trans (hbr.out.mono HB2.out.size)
          have hnf2 : nf2 ≤ 24 := by
            have h1 := hS2.out.flen
            rw [List.length_append, hU.out.len] at h1
            simp [modF] at h1
            have := HTL.out
            omega
          by_cases hjl : j < nd
          · have hjz : (j : Int) < (nd : Int) := by omega
            have hj0 : ¬ (j : Int) < 0 := by omega
            obtain ⟨db, doff, d, rfl, hdb, hd, q0⟩ := hS2.out.d.sl.str_at hjl
            obtain ⟨gr, Ai, ni, ci, rs, rfl, hgr, hgl, hv, hr, hnl, hni, hci, hown, g0, f0⟩ := hS2.out.at_ hjl
            have HPR := Lib.hid (print_any Ai ni ci wr.heap.size rs wr (Sl.of_own hown) (fun r hr' => (hS2.out.ok rs (List.mem_of_getElem? hr) r hr').up hS2.out.le) (Nat.le_refl _) hni hci)
            have HD := Lib.hid hd; have HR := Lib.hid hr
            have hds : d.size ≤ 90 := HP1.out.dsz hd
            have hrl : rs.length ≤ 12 := by
              have := HP1.out.sum (j := j) (rs := rs.map ct) (by rw [List.getElem?_map, hr]; rfl)
              rw [List.length_map, HTL.out] at this
              omega
            have HRL := Lib.hid hrl
            clear hd hr hv hnl hni hci hown hrl f0
            go_wp2_with fail
            refine HPR.out.mono ?_
            rintro e w8 ⟨s, err, rfl, himp, hb8⟩
            have HS8 := Lib.hid (hS2.out.below hb8)
            have HB8 : Hid (Below w2.heap.size w2 w8) := hbr.out.trans (hb8.mono hbr.out.size)
            have HB8W : Hid (Below w.heap.size w w8) := HB2.out.trans (HB8.out.mono HB2.out.size)
            clear hb8 HPR q0 g0
            by_cases he : err = 0
            case neg =>
              have he' : (err != 0) = true := by simpa using he
              clear he himp
              go_wp2_with fail
              refine (awake_any _).mono ?_
              rintro e wz ⟨rfl, hbz⟩
              have HBz := Lib.hid (HB8W.out.trans (hbz.mono HB8W.out.size)); clear hbz
              go_wp2_with fail
              go_ret
              exact ⟨rfl, HBz.out⟩

            subst he
            obtain ⟨hce, hbl⟩ := himp rfl
            have HU : Hid (BldU ds rss (bs ++ [(bldS d, s)]) (j + 1)) := hU.out.step HD.out HR.out hds HRL.out hce hbl
            have h1 : (d.toList == []) = decide (d = ⟨#[]⟩) := str_lit d _
            clear himp hce hbl
            by_cases hde : d = ⟨#[]⟩
            · rw [decide_eq_true hde] at h1
              have h1' : (d.toList == []) = true := h1
              have HBP : Hid (bs ++ [(bldS d, s)] = bs ++ [(buildW, s)]) := by show _ = _; rw [show bldS d = buildW from if_pos hde]
              clear h1 hde
              go_wp2_with (at_builtin; refine halt_appB (.tmp 151) (.tmp 155) 22 rfl ?_)
              refine unhalt ?_
              refine wpList_append_apd (base := w2.heap.size) (size := 2) _ rfl (.tmp 151) (.tmp 155) 22 rfl 42 i2 _ 32 Tryz.underlying22 Hx.out Hx0.out Hx1.out Hx2.out rfl (by decide) Af2 nf2 cf2 (flat flC (modF ts ++ bs)) rfl ?own_4 (w8.heap.size + 1) _ 1 _ (flat flC [(buildW, s)]) rfl ?nw_4 (one_flB _) ?m1_4 ?m2_4 ?m3_4 ?_
              case own_4 => exact HS8.out.f.below ((Below.refl _ w8).alloc (Nat.le_refl _) _)
              case nw_4 =>
                have := Sl.of_bk (n := 1) (size := 2) (Bk.new w8 42 #[.string (buildW), .string s]) rfl
                rw [World.size_alloc] at this; exact this
              case m1_4 => unfold maxLen; omega
              case m2_4 => omega
              case m3_4 => have := HB8.out.size; simp; omega
              intro A10 c10 w10 ha10 hb10 hn10 hm10 hok10
              rw [← flat_append, List.append_assoc, ← HBP.out] at ha10
              have HS10 := Lib.hid (BdS.addF (HS8.out.below ((Below.refl _ w8).alloc (Nat.le_refl _) (.cells #[.string (buildW), .string s] 42))) ha10 hb10 hok10)
              have HB10 : Hid (Below w2.heap.size w2 w10) := (HB8.out.alloc HB8.out.size _).trans hb10
              clear ha10 hb10 hn10 hm10 hok10
              go_wp2_with fail
              go_roundw
              case rel => exact ⟨j + 1, _, _, _, _, by go_num, rfl, hjl, HS10.out, HU.out, HB10.out⟩
              case measure => simp [intOf]; omega
            · rw [decide_eq_false hde] at h1
              have h1' : (d.toList == []) = false := h1
              have HBP : Hid (bs ++ [(bldS d, s)] = bs ++ [(d ++ slBuildW, s)]) := by show _ = _; rw [show bldS d = d ++ slBuildW from if_neg hde]
              have hsz : ¬ (9223372036854775807 < d.size + slBuildW.size) := by have : slBuildW.size = 6 := rfl; omega
              clear h1 hde
              go_wp2_with (at_builtin; refine halt_appB (.tmp 151) (.tmp 155) 22 rfl ?_)
              refine unhalt ?_
              refine wpList_append_apd (base := w2.heap.size) (size := 2) _ rfl (.tmp 151) (.tmp 155) 22 rfl 42 i2 _ 32 Tryz.underlying22 Hx.out Hx0.out Hx1.out Hx2.out rfl (by decide) Af2 nf2 cf2 (flat flC (modF ts ++ bs)) rfl ?own_5 (w8.heap.size + 1) _ 1 _ (flat flC [(d ++ slBuildW, s)]) rfl ?nw_5 (one_flB _) ?m1_5 ?m2_5 ?m3_5 ?_
              case own_5 => exact HS8.out.f.below ((Below.refl _ w8).alloc (Nat.le_refl _) _)
              case nw_5 =>
                have := Sl.of_bk (n := 1) (size := 2) (Bk.new w8 42 #[.string (d ++ slBuildW), .string s]) rfl
                rw [World.size_alloc] at this; exact this
              case m1_5 => unfold maxLen; omega
              case m2_5 => omega
              case m3_5 => have := HB8.out.size; simp; omega
              intro A10 c10 w10 ha10 hb10 hn10 hm10 hok10
              rw [← flat_append, List.append_assoc, ← HBP.out] at ha10
              have HS10 := Lib.hid (BdS.addF (HS8.out.below ((Below.refl _ w8).alloc (Nat.le_refl _) (.cells #[.string (d ++ slBuildW), .string s] 42))) ha10 hb10 hok10)
              have HB10 : Hid (Below w2.heap.size w2 w10) := (HB8.out.alloc HB8.out.size _).trans hb10
              clear ha10 hb10 hn10 hm10 hok10
              go_wp2_with fail
              go_roundw
              case rel => exact ⟨j + 1, _, _, _, _, by go_num, rfl, hjl, HS10.out, HU.out, HB10.out⟩
              case measure => simp [intOf]; omega
          · have hjz : ¬ (j : Int) < (nd : Int) := by omega
            have hjn : nd = j := by omega
            subst hjn
            have HBF : Hid (BuildF ds (rss.map (List.map ct)) bs) := by
              have := hU.out; rw [← HDL.out] at this; exact this.build
            have HSZ : Hid (∀ f ∈ modF ts ++ bs, f.1.size ≤ 500 ∧ f.2.size ≤ 60000) := fun f hf => by
              rcases List.mem_append.1 hf with hf | hf
              · exact modF_sz (fun t ht => (HSM.out t ht).lab) f hf
              · exact hU.out.sz f hf
            have HSO := Lib.hid (sortApd_any w2.heap.size nf2 cf2 Af2 (modF ts ++ bs) wr hS2.out.f hS2.out.le (by omega))
            obtain ⟨wl, hwl⟩ : ∃ W, W = wr := ⟨_, rfl⟩
            subst hwl
            go_wp2_with fail
            refine HSO.out.mono ?_
            rintro e w9 ⟨rfl, us, hpm, _, hs9, hb9⟩
            have HPM := Lib.hid hpm; have HS9 := Lib.hid hs9
            have HB9 : Hid (Below w2.heap.size w2 w9) := hbr.out.trans hb9
            have HB9W : Hid (Below w.heap.size w w9) := HB2.out.trans (HB9.out.mono HB2.out.size)
            have HZ9 : Hid (∀ f ∈ us, f.1.size ≤ 500 ∧ f.2.size ≤ 60000) := fun f hf => HSZ.out f (HPM.out.mem_iff.1 hf)
            have HCK := Lib.hid (check9_any Af2 nf2 cf2 w9.heap.size us w9 HS9.out (Nat.le_refl _) (by omega) (fun f hf => by have := HZ9.out f hf; omega))
            clear hpm hs9 hb9 HSO
            go_wp2_with fail
            refine HCK.out.mono ?_
            rintro e w10 ⟨er1, rfl, htc, hb10⟩
            have HB10 : Hid (Below w2.heap.size w2 w10) := HB9.out.trans (hb10.mono HB9.out.size)
            have HB10W : Hid (Below w.heap.size w w10) := HB2.out.trans (HB10.out.mono HB2.out.size)
            have HS10 := Lib.hid (sl_onB HS9.out hb10)
            clear hb10 HCK
            by_cases he : er1 = 0
            case neg =>
              have he' : (er1 != 0) = true := by simpa using he
              clear he htc
              go_wp2_with fail
              refine (awake_any _).mono ?_
              rintro e wz ⟨rfl, hbz⟩
              have HBz := Lib.hid (HB10W.out.trans (hbz.mono HB10W.out.size)); clear hbz
              go_wp2_with fail
              go_ret
              exact ⟨rfl, HBz.out⟩

            subst he
            have HLR : Hid (LdR us (ts.map ct) ⟨#[]⟩ 0) := build_load HVL.out HVA.out HP1.out HBF.out HPM.out htc
            have HLO := Lib.hid (load_any Af2 nf2 cf2 w10.heap.size us w10 HS10.out (Nat.le_refl _) (by omega) HZ9.out)
            clear htc
            go_wp2_with fail
            refine HLO.out.mono ?_
            rintro e w11 ⟨A2, m, c2, rs, wh, err, rfl, hs, hx, hmc, hcm2, hl, hb⟩
            obtain ⟨heq, hwe, hee⟩ := hl.uniq HLR.out
            have HEQ := Lib.hid heq
            subst hwe hee
            have zb2 := hb.size
            obtain ⟨W12, hW12⟩ : ∃ W, w11.alloc (.cells #[.slice A2 m c2] 27) = W := ⟨_, rfl⟩
            have hb12 : Below w11.heap.size w11 W12 := by rw [← hW12]; exact (Below.refl _ w11).alloc (Nat.le_refl _) _
            have HB12 : Hid (Below w2.heap.size w2 W12) := HB10.out.trans ((hb.trans (hb12.mono zb2)).mono HB10.out.size)
            have HB12W : Hid (Below w.heap.size w W12) := HB2.out.trans (HB12.out.mono HB2.out.size)
            have HG12 : Hid (Bk W12 w11.heap.size 27 #[.slice A2 m c2]) := by rw [← hW12]; exact Bk.new w11 _ _
            have HS12 := Lib.hid (sl_onB hs hb12)
            have HX12 : Hid (∀ t ∈ rs, TgOk W12 W12.heap.size t) := fun t ht => ((hx t ht).below hb12 (Nat.le_refl _)).up hb12.size
            have g0 := HG12.out.cell 0
            have g1 := (HG2.out.below HB12.out zg).cell 0
            simp at g0 g1
            have hml := hs.len tgC_len (by omega)
            have hlm : m ≤ 1000000 := by
              have h1 := congrArg List.length HEQ.out
              rw [List.length_map, List.length_map, HTL.out] at h1
              omega
            have HSA := Lib.hid (same_any A2 A m c2 n c W12.heap.size rs ts W12 HS12.out ((H0.out.below HB12W.out (Nat.le_refl _)).more HB12W.out.size) HX12.out (fun t ht => ((HX2.out t ht).below HB12.out (Nat.le_refl _)).up HB12.out.size) (Nat.le_refl _) hlm HEQ.out)
            clear hb12 hs hx hl hb HLO heq hml
            go_wp2_with (first | (go_at_call 15; refine HSA.out.mono ?_; rintro e w13 ⟨rfl, hb13⟩; refine halt_ ?_))
            refine unhalt ?_
            have HB13 : Hid (Below w.heap.size w w13) := HB12W.out.trans (hb13.mono HB12W.out.size)
            clear hb13 hW12 g0 g1
            go_wp2_with fail
            refine (awake_any _).mono ?_
            rintro e wz ⟨rfl, hbz⟩
            have HBz := Lib.hid (HB13.out.trans (hbz.mono HB13.out.size)); clear hbz
            go_wp2_with fail
            go_ret
            exact ⟨rfl, HBz.out⟩
end Go.Proofs.YtddlohbhchjjhaaGreatDoor
