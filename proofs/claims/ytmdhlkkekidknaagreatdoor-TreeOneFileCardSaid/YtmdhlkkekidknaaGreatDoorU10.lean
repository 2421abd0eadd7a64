/-
  Lemmas: tree.store. tree.Store. tree.Set, tree.Remove. tree.Set and tree.Remove: the walks. tree.Remove. The chapter's example, and reading with another fuel; in plain Lean. slices.Sorted(maps.Keys(m)) at two kinds of maps. tree.Diff: what its map holds.
-/
import Derived.Test.YtmdhlkkekidknaaGreatDoorU9

namespace Go.Proofs.YtmdhlkkekidknaaGreatDoor
open Go.RowKit Go.Maps

theorem infoFile : (Tryz.prog.info? 68).map (fun i => (i.zero, i.size, i.bytes)) = some (some (.agg #[.string ⟨#[]⟩, .string ⟨#[]⟩]), 2, 32) := by kernel_rfl
theorem blobC_eq (s : ByteArray) : (Value.agg (blobC s)) = obV (blobO s) zOs := rfl
theorem obM_zero (w : World) (B : Nat) (s : ByteArray) : ObM w B (blobO s) zOs := ⟨Sl.nil _ _ _ _, Sl.nil _ _ _ _, Nat.le_refl _, Nat.zero_le _, Nat.le_refl _, Nat.zero_le _⟩
theorem new_file (w : World) (x y : ByteArray) : ∀ j u, [Value.string x, .string y][j]? = some u → (w.alloc (.cells #[.string x, .string y] 68)).cell? (Addr.add ⟨w.heap.size, 0, none⟩ j) = some u := by
  intro j u hj
  have hb : Bk (w.alloc (.cells #[.string x, .string y] 68)) w.heap.size 68 #[.string x, .string y] := Bk.new w _ _
  rw [Addr.add_lit, hb.cell]
  rcases j with _ | _ | j
  · simpa using hj
  · simpa using hj
  · simp at hj
theorem nod_at {l : List Fl} (h : (l.map Prod.fst).Nodup) {k : Nat} {f : Fl} (hf : l[k]? = some f) : f.1 ∉ (l.take k).map Prod.fst := by
  intro hm
  rw [List.map_take] at hm
  obtain ⟨i, hi, e⟩ := List.getElem_of_mem hm
  rw [List.length_take] at hi
  rw [List.getElem_take] at e
  obtain ⟨h1, h2⟩ := List.getElem?_eq_some_iff.1 hf
  have h3 : (l.map Prod.fst)[k]'(by simpa using h1) = f.1 := by rw [List.getElem_map, h2]
  exact List.pairwise_iff_getElem.1 h i k (by omega) (by simpa using h1) (by omega) (e.trans h3.symm)
section
variable {w w' : World} {base : Nat} {A0 A A' : Option Addr} {c0 c c' : Nat} {p q q' : List Itm}
theorem Ply.below (h : Ply w base A0 c0 p A c q) (hb : Below w.heap.size w w') : Ply w' base A0 c0 p A c q := by
  rcases h with h | h
  · exact .inl h
  · exact .inr (ownsRow_upon h hb)
theorem Ply.box (h : Ply w base A0 c0 p A c q) {b : Nat} {t : TypeId} {cs : Array Value} (hb : Bk w b t cs) (hne : 38 ≠ t) (i : Nat) (x : Value) : Ply (w.setCell ⟨b, i, none⟩ x) base A0 c0 p A c q := by
  rcases h with h | h
  · exact .inl h
  · exact .inr (ownsRow_bk h hb hne i x)
theorem Ply.others (h : Ply w base A0 c0 p A c q) {e : TypeId} (ho : OthersKept e w w') (hne : 38 ≠ e) : Ply w' base A0 c0 p A c q := by
  rcases h with h | h
  · exact .inl h
  · exact .inr (ho _ _ _ _ _ _ hne h)
theorem Ply.trans {n' : Nat} (h : Ply w base A0 c0 p A c q) (hb : Below w.heap.size w w') (k : Ply w' n' A c q A' c' q') (hn : base ≤ n') : Ply w' base A0 c0 p A' c' q' := by
  rcases k with ⟨rfl, rfl, rfl⟩ | k
  · exact h.below hb
  · exact .inr (ownsRow_low k hn)
theorem Ply.sl {B : Nat} (h : Ply w base A0 c0 p A c q) (h0 : Sl w B 3 A0 p.length (flat itC p)) (hB : B ≤ w.heap.size) : Sl w w.heap.size 3 A q.length (flat itC q) := by
  rcases h with ⟨rfl, _, rfl⟩ | h
  · exact h0.more hB
  · exact Sl.of_own h
end
def StoE (k : Nat) (l : List Fl) (A0 : Option Addr) (c0 : Nat) (p : List Itm) (w : World) (e : Ending) (w' : World) : Prop :=
  ((∃ q d A c, sto k p l = some (q, d) ∧ StoR p q d l ∧ e = .returned (.tuple #[.slice A q.length c, digV d, .int .i64 0]) ∧ Sl w' w'.heap.size 3 A q.length (flat itC q) ∧ q.length ≤ c ∧ c ≤ maxLen ∧ Ply w' w.heap.size A0 c0 p A c q) ∨ (sto k p l = none ∧ e = .returned (.tuple #[.slice none 0 0, digV zD, .int .i64 16]))) ∧ Below w.heap.size w w'
def StoC (k : Nat) : Prop := ∀ (l : List Fl), OkL l → (∀ f ∈ l, f.1.size ≤ k) → ∀ (p : List Itm) (A : Option Addr) (n c : Nat) (A1 : Option Addr) (m c1 B : Nat) (w : World),
    Sl w B 3 A n (flat itC p) → Sl w B 2 A1 m (flat flC l) → B ≤ w.heap.size → n ≤ c → c ≤ maxLen → PlOk p → n + wt l ≤ 800000 →
    Calls Tryz.prog 45 #[.slice A n c, .slice A1 m c1] w (StoE (k + 1) l A c p w)
set_option maxRecDepth 100000 in
set_option maxHeartbeats 16000000 in
theorem store_core (k : Nat) (ih : ∀ k', k = k' + 1 → StoC k') : StoC k := by
  intro l hl hlk p A n c A1 m c1 B w hp0 hl0 hB hnc hcm hpo hsz
  have HPL := Lib.hid (hp0.len itC_len (by omega))
  have HLL := Lib.hid (hl0.len flC_len (by omega))
  have HP0 := Lib.hid hp0; have HL0 := Lib.hid hl0; have HOL := Lib.hid hl; have HLK := Lib.hid hlk; have HNC := Lib.hid hnc; have HCM := Lib.hid hcm; have HPO := Lib.hid hpo; have HSZ := Lib.hid hsz
  have IH := Lib.hid ih
  have HPQ : Hid (∀ (W : World) (Ax : Option Addr) (cx : Nat) (qx : List Itm), Ply W w.heap.size A c p Ax cx qx → Below w.heap.size w W → Sl W W.heap.size 3 Ax qx.length (flat itC qx)) := fun W Ax cx qx h hb => by
    have h1 := HP0.out
    rw [← HPL.out] at h1
    exact h.sl (h1.below hb hB) (by have := hb.size; omega)
  have hm2 : m ≤ 200 := by rw [← HLL.out]; exact hl.few
  clear hp0 hl0 hl hlk hnc hcm hpo hsz ih
  have hmm := @run_makeMap Tryz.prog
  obtain ⟨W0, hW0⟩ : ∃ W, ((w.alloc (.cells #[.int .u64 0, .int .u64 0] 30)).alloc (.map #[] 0)).alloc (.map #[] 0) = W := ⟨_, rfl⟩
  have HD0 : Hid (Bk W0 w.heap.size 30 #[.int .u64 0, .int .u64 0]) := by rw [← hW0]; exact ((Bk.new w _ _).alloc _).alloc _
  have HM0 : Hid (StM W0 (w.heap.size + 1) (w.heap.size + 2) (w.heap.size + 3) 0 (fun _ => none) (fun _ => none) (l.take 0)) := by
    show StM _ _ _ _ _ _ _ []
    rw [← hW0]
    have := StM.start (w.alloc (.cells #[.int .u64 0, .int .u64 0] 30)) (w.heap.size + 3)
    rw [World.size_alloc] at this
    exact this
  have HB0 : Hid (Below w.heap.size w W0) := by rw [← hW0]; exact (((Below.refl _ w).alloc (Nat.le_refl _) _).alloc (by simp) _).alloc (by simp; omega) _
  have zW0 : w.heap.size + 3 = W0.heap.size := by rw [← hW0]; simp
  have HW0 := Lib.hid hW0
  clear hW0
  go_enter Tryz.func45, Tryz.ntmps45
  go_wp2_with fail
  rw [HW0.out]
  go_wp2_with fail
  go_loopw [26] (fun i wr => ∃ (j : Nat) (gb gf : ByteArray → Option Value), j ≤ m ∧ i = .int .i64 (j : Int) ∧ Hid (StM wr (w.heap.size + 1) (w.heap.size + 2) (w.heap.size + 3) j gb gf (l.take j)) ∧ Hid (Bk wr w.heap.size 30 #[.int .u64 0, .int .u64 0]) ∧ Hid (Below w.heap.size w wr) ∧ w.heap.size + 3 ≤ wr.heap.size) (fun i _ => m - (intOf i).toNat)
  case atStart => exact ⟨0, _, _, Nat.zero_le _, rfl, HM0.out, HD0.out, HB0.out, by omega⟩
  case round =>
    clear HM0 HD0 HB0 HW0
    obtain ⟨j, gb, gf, hj, rfl, hS, hD, hBel, hwz⟩ := hrel
    by_cases hlt : j < m
    · have hlz : (j : Int) < (m : Int) := by omega
      obtain ⟨bb, off, f, rfl, hbB, hf, y0, y1⟩ := (HL0.out.below hBel.out hB).fl hlt
      have HF := Lib.hid hf
      have hPT := HOL.out.path f (List.mem_of_getElem? hf)
      have hfs : f.1.size ≤ 100 := path_len hPT
      have hns := (name_len (path_name hPT)).2
      have HND := Lib.hid (nod_at HOL.out.nod hf)
      have HTK := Lib.hid (take_snoc hf)
      clear hf hPT
      obtain ⟨fp, fd⟩ := f
      simp only at y0 y1 hfs hns
      obtain ⟨W1, hW1⟩ : ∃ W, wr.alloc (.cells #[.string fp, .string fd] 68) = W := ⟨_, rfl⟩
      have HK1 : Hid (Bk W1 wr.heap.size 68 #[.string fp, .string fd]) := by rw [← hW1]; exact Bk.new wr _ _
      have HB1 : Hid (Below wr.heap.size wr W1) := by rw [← hW1]; exact (Below.refl _ wr).alloc (Nat.le_refl _) _
      have HC := Lib.hid (cut_any fp W1 (by unfold maxLen; omega))
      have zW1 : wr.heap.size < W1.heap.size := HK1.out.lt
      obtain ⟨x0, x1, _, _⟩ := HK1.out.two
      go_wp2_with fail
      refine HC.out.mono ?_
      rintro e w2 ⟨a, b, mo, rfl, hcr, hb2⟩
      obtain ⟨ha, hbq, hmo⟩ := cutR_eq hcr
      have HA := Lib.hid ha; have HBQ := Lib.hid hbq
      rw [← ha] at hns
      have HK2 := Lib.hid (HK1.out.below hb2 zW1)
      have HB2 : Hid (Below wr.heap.size wr w2) := HB1.out.trans (hb2.mono HB1.out.size)
      have HS2 := Lib.hid (hS.out.below HB2.out)
      have HD2 := Lib.hid (hD.out.below HB2.out (by omega))
      have HBw : Hid (Below w.heap.size w w2) := hBel.out.trans (HB2.out.mono (by omega))
      have zw2 : wr.heap.size < w2.heap.size := Nat.lt_of_lt_of_le zW1 hb2.size
      obtain ⟨x0, x1, _, _⟩ := HK2.out.two
      clear hcr ha hbq hb2 HC hW1 HK1 HB1 hS hD
      cases mo with
      | false =>
        have HDN : Hid (deN fp = false) := hmo.symm
        have HAF : Hid (a = fp) := by show _ = _; rw [HA.out, cut_flat HDN.out]
        have hsm : a.size ≤ maxLen := by unfold maxLen; omega
        clear hmo
        go_wp2_with (at_mapUpdate; refine halt_ ?_)
        refine unhalt ?_
        refine wpList_put_rm rfl _ _ _ 124 rfl 9 68 Tryz.underlying9 Tryz.underlying124 (w.heap.size + 2) j gf rfl HS2.out.f (by unfold maxLen; omega) a hsm _ rfl rfl ?_
        intro w3 hM3 hg3
        rw [HAF.out] at hM3
        have HS3 : Hid (StM w3 (w.heap.size + 1) (w.heap.size + 2) (w.heap.size + 3) (j + 1) gb (upd gf fp (fileV (fp, fd))) (l.take j ++ [(fp, fd)])) := HS2.out.file (f := (fp, fd)) (by omega) (by omega) HDN.out HND.out hM3 hg3
        have HD3 := Lib.hid (HD2.out.grown hg3 (fun e => by have := Option.some.inj e; omega))
        have HB3 : Hid (Below w.heap.size w w3) := HBw.out.grown hg3 (by omega) (fun k e => by cases e; omega)
        have z3 := hg3.size
        clear hM3 hg3 HS2 HD2
        go_wp2_with fail
        go_roundw
        case rel => exact ⟨j + 1, gb, _, hlt, by go_num, by rw [HTK.out]; exact HS3.out, HD3.out, HB3.out, by omega⟩
        case measure => simp [intOf]; omega
      | true =>
        have HDN : Hid (deN fp = true) := hmo.symm
        have hsm : a.size ≤ maxLen := by unfold maxLen; omega
        clear hmo
        have hlk : (Instr.lookup 123 (.map (some (w.heap.size + 1))) (.string a) false).run Tryz.prog w2 = .ok ((gb a).getD nilS) w2 := HS2.out.b.look Tryz.underlying9 Tryz.underlying123 (Tryz.zeroValue24 _) hsm
        obtain ⟨i0, hi, hz0, hz1, hz2⟩ := info_parts infoFile
        have Hi := Lib.hid hi; have Hz0 := Lib.hid hz0; have Hz1 := Lib.hid hz1; have Hz2 := Lib.hid hz2
        clear hi hz0 hz1 hz2
        have HIL : Hid ((inD (l.take j) a).length ≤ 200) := by have := inD_len (l.take j) a; have h2 := HOL.out.few; rw [List.length_take] at this; show _ ≤ _; omega
        go_wp2_with (at_builtin; refine halt_ ?_)
        refine unhalt ?_
        refine wpList_append_lies _ rfl (.tmp 42) (.tmp 47) 24 rfl (w.heap.size + 3) 68 i0 _ 2 32 Tryz.underlying24 Hi.out Hz0.out Hz1.out Hz2.out rfl (by decide) ((gb a).getD nilS) (inD (l.take j) a).length (flat flC (inD (l.take j) a)) rfl ?own _ 1 _ [.string b, .string fd] rfl rfl ?nw (by simp [Value.oneCell']) (by decide) ?l1 ?l2 ?l3 _ rfl ?_
        case own => exact (HS2.out.alloc _).rows.own a
        case nw => exact new_file w2 b fd
        case l1 => have := HIL.out; unfold maxLen; omega
        case l2 => have := HIL.out; omega
        case l3 => simp; omega
        intro g cap w4 ho hg hat hgl
        have HO := Lib.hid ho; have HG := Lib.hid hg; have HAT := Lib.hid hat
        have hrow : Hid (∀ k, ((gb a).getD nilS).ownBlock = some k → w.heap.size + 3 ≤ k) := fun k e => ((HS2.out.rows.own a).lt k e).1
        have hz4 := hg.size
        rw [World.size_alloc] at hz4
        clear ho hg hat hgl hlk
        go_wp2_with (at_mapUpdate; refine halt_ ?_)
        refine unhalt ?_
        refine wpList_put_rm rfl _ _ _ 123 rfl 9 24 Tryz.underlying9 Tryz.underlying123 (w.heap.size + 1) j gb rfl ((HS2.out.alloc _).b.kept HG.out (fun e => by have := hrow.out _ e.symm; omega)) (by unfold maxLen; omega) a hsm _ rfl rfl ?_
        intro w5 hM5 hg5
        have HS5 : Hid (StM w5 (w.heap.size + 1) (w.heap.size + 2) (w.heap.size + 3) (j + 1) (upd gb (fsN fp) (.slice (some ⟨g, 0, none⟩) ((inD (l.take j) (fsN fp)).length + 1) cap)) gf (l.take j ++ [(fp, fd)])) := by
          have h1 := HO.out; have h2 := HG.out; have h3 := HAT.out
          have h4 : Rm w5 Tryz.prog 9 (w.heap.size + 1) (j + 1) (upd gb a (.slice (some ⟨g, 0, none⟩) ((inD (l.take j) a).length + 1) cap)) := hM5
          rw [HA.out] at h1 h2 h3 h4
          rw [HBQ.out] at h1
          exact (HS2.out.alloc _).dir (f := (fp, fd)) (by omega) HDN.out HND.out h1 h2 h3 h4 hg5
        have HB5 : Hid (Below w.heap.size w w5) := ((HBw.out.alloc (by omega) _).grown HG.out (by simp; omega) (fun k e => by have := hrow.out _ e; omega)).grown hg5 (by omega) (fun k e => by cases e; omega)
        have HD5 := Lib.hid (((HD2.out.alloc _).grown HG.out (fun e => by have := hrow.out _ e.symm; omega)).grown hg5 (fun e => by have := Option.some.inj e; omega))
        have hz5 : w.heap.size + 3 ≤ w5.heap.size := by have := hg5.size; omega
        clear hM5 hg5 HO HG HAT HS2 HD2 hrow
        go_wp2_with fail
        go_roundw
        case rel => exact ⟨j + 1, _, gf, hlt, by go_num, by rw [HTK.out]; exact HS5.out, HD5.out, HB5.out, hz5⟩
        case measure => simp [intOf]; omega
    · have hlz : ¬ (j : Int) < (m : Int) := by omega
      have hjm : j = m := by omega
      have HS1 : Hid (StM wr (w.heap.size + 1) (w.heap.size + 2) (w.heap.size + 3) m gb gf l) := by
        have := hS.out
        rw [hjm, List.take_of_length_le (by rw [HLL.out]; exact Nat.le_refl _)] at this
        exact this
      obtain ⟨wo, hwo⟩ : ∃ wo, wo = wr := ⟨_, rfl⟩
      subst hwo
      obtain ⟨W3, hW3⟩ : ∃ W, wo.alloc (.cells #[.map (some (w.heap.size + 2))] 124) = W := ⟨_, rfl⟩
      have HK3 : Hid (Bk W3 wo.heap.size 124 #[.map (some (w.heap.size + 2))]) := by rw [← hW3]; exact Bk.new wo _ _
      have HB3 : Hid (Below wo.heap.size wo W3) := by rw [← hW3]; exact (Below.refl _ wo).alloc (Nat.le_refl _) _
      have HC3 := Lib.hid (collF_any wo.heap.size (w.heap.size + 2) m gf W3 (HS1.out.f.below HB3.out HS1.out.f.lt) (HK3.out.cell 0) HK3.out.lt (by omega))
      have HKF := Lib.hid (keysF_any (w.heap.size + 2) wo)
      have z3 : wo.heap.size + 1 = W3.heap.size := by rw [← hW3]; simp
      rw [hW3] at HKF
      clear hS hW3
      go_wp2_with fail
      refine HKF.out.mono ?_
      rintro e w' ⟨rfl, hw'⟩
      have hw2 := hw'.symm
      clear hw'
      subst hw2
      go_wp2_with fail
      refine HC3.out.mono ?_
      rintro e w4 ⟨A4, c4, ks, rfl, hk4, hr4, hb4⟩
      have HK4 := Lib.hid hk4; have HR4 := Lib.hid hr4; have HB4 := Lib.hid hb4
      have HBo4 : Hid (Below wo.heap.size wo w4) := HB3.out.trans (hb4.mono HB3.out.size)
      have z4 : W3.heap.size ≤ w4.heap.size := hb4.size
      clear hk4 hr4 hb4 HC3 HKF
      obtain ⟨W5, hW5⟩ : ∃ W, w4.alloc (.cells #[.map (some (w.heap.size + 1))] 123) = W := ⟨_, rfl⟩
      have HK5 : Hid (Bk W5 w4.heap.size 123 #[.map (some (w.heap.size + 1))]) := by rw [← hW5]; exact Bk.new w4 _ _
      have HB5 : Hid (Below w4.heap.size w4 W5) := by rw [← hW5]; exact (Below.refl _ w4).alloc (Nat.le_refl _) _
      have HBo5 : Hid (Below wo.heap.size wo W5) := HBo4.out.trans (HB5.out.mono HBo4.out.size)
      have HR5 : Hid (W5.ownsRow W3.heap.size 9 1 (.slice A4 ks.length c4) ks.length (strs ks)) := by
        rw [← hW5]
        exact HR4.out.kept (World.grownBy_alloc w4 _ none) (by cases hv : (Value.slice A4 ks.length c4).ownBlock with | none => exact .inl rfl | some k => exact .inr (by simp))
      have HC5 := Lib.hid (apsB_any w4.heap.size (w.heap.size + 1) m gb A4 ks.length c4 ks W3 W5 (HS1.out.b.below HBo5.out HS1.out.b.lt) (HK5.out.cell 0) HK5.out.lt HR5.out (HB4.out.trans (HB5.out.mono z4)) (by have := HK4.out.few; omega))
      have HKB := Lib.hid (keysB_any (w.heap.size + 1) w4)
      rw [hW5] at HKB
      clear hW5
      go_wp2_with fail
      refine HKB.out.mono ?_
      rintro e w' ⟨rfl, hw'⟩
      have hw2 := hw'.symm
      clear hw'
      subst hw2
      go_wp2_with fail
      refine HC5.out.mono ?_
      rintro e w6 ⟨A6, c6, qs, rfl, hq6, hr6, hb6⟩
      have HNE := Lib.hid (names_eq HOL.out HS1.out.gbs HS1.out.gfs HK4.out hq6)
      have hnl : ks.length + qs.length ≤ 400 := by have := HK4.out.few; have := hq6.few; omega
      have HSO := Lib.hid (sort_any W3.heap.size (ks.length + qs.length) c6 A6 (ks ++ qs) w6 hr6 (by omega))
      have HB6 := Lib.hid hb6
      have HRG : Hid (∀ k, (Value.slice A6 (ks.length + qs.length) c6).ownBlock = some k → W3.heap.size ≤ k) := fun k hk => (own_row hr6 hk).1
      clear hr6 hq6 hb6 HC5 HKB HK4 HR4 HR5
      go_wp2_with fail
      refine HSO.out.mono ?_
      rintro e w7 ⟨rfl, hs7, hg7⟩
      have HB7 : Hid (Below W3.heap.size W3 w7) := HB6.out.grown hg7 HB6.out.size (fun k e => HRG.out k e)
      have HS7 : Hid (Sl w7 w7.heap.size 1 A6 (ks.length + qs.length) (strs (nmsP l))) := by
        have := Sl.of_own hs7
        rw [HNE.out.1] at this
        exact this
      have HBo7 : Hid (Below wo.heap.size wo w7) := HB3.out.trans (HB7.out.mono HB3.out.size)
      have HSM7 := Lib.hid (HS1.out.below HBo7.out)
      have HD7 := Lib.hid (hD.out.below HBo7.out (by omega))
      have HBw7 : Hid (Below w.heap.size w w7) := hBel.out.trans (HBo7.out.mono (by omega))
      obtain ⟨nn, hnn⟩ : ∃ nn, ks.length + qs.length = nn := ⟨_, rfl⟩
      rw [hnn] at HS7 hnl
      have HNL : Hid ((nmsP l).length = nn) := by have := HS7.out.1; rw [strs_len] at this; show _ = _; omega
      have z7 : w.heap.size + 3 ≤ w7.heap.size := by have := HBo7.out.size; omega
      clear hs7 hg7 HRG HB6 HSO HB7 HBo7 HS1 hD hBel HB3 HK3 HB4 HBo4 HK5 HB5 HBo5
      obtain ⟨W8, hW8⟩ : ∃ W, w7.alloc (.cells #[.int .i64 2, .string ⟨#[]⟩, .slice none 0 0, .int .u64 0, .int .u64 0, .slice none 0 0, .string ⟨#[]⟩, .int .i64 0, .string ⟨#[]⟩] 82) = W := ⟨_, rfl⟩
      have HW8 := Lib.hid hW8
      clear hW8
      go_wp2_with fail
      have HO8 : Hid (Bk W8 w7.heap.size 82 #[.int .i64 2, .string ⟨#[]⟩, .slice none 0 0, .int .u64 0, .int .u64 0, .slice none 0 0, .string ⟨#[]⟩, .int .i64 0, .string ⟨#[]⟩]) := by rw [← HW8.out]; exact Bk.new w7 _ _
      have HB8 : Hid (Below w7.heap.size w7 W8) := by rw [← HW8.out]; exact (Below.refl _ w7).alloc (Nat.le_refl _) _
      have z8 : w7.heap.size + 1 = W8.heap.size := by rw [← HW8.out]; simp
      rw [HW8.out]
      clear HW8
      obtain ⟨i0, hi, hz0, hz1, hz2⟩ := info_parts infoEnt
      have Hi := Lib.hid hi; have Hz0 := Lib.hid hz0; have Hz1 := Lib.hid hz1; have Hz2 := Lib.hid hz2
      clear hi hz0 hz1 hz2
      go_loopw [0, 65] (fun pv i wr => ∃ (j : Nat) (q : List Itm) (es : List Ent) (Aq : Option Addr) (cq : Nat) (EA : Option Addr) (ec : Nat), pv = .slice Aq q.length cq ∧ i = .int .i64 (j : Int) ∧ j ≤ nn ∧ Hid (StoAt k l p j q es) ∧ Hid (Ply wr w.heap.size A c p Aq cq q) ∧ q.length ≤ cq ∧ cq ≤ maxLen ∧
        Hid (Apd wr (w7.heap.size + 1) 102 4 EA j ec (flat enC es)) ∧ j ≤ ec ∧ ec ≤ maxLen ∧ Hid (Bk wr w7.heap.size 82 #[.int .i64 2, .string ⟨#[]⟩, .slice EA j ec, .int .u64 0, .int .u64 0, .slice none 0 0, .string ⟨#[]⟩, .int .i64 0, .string ⟨#[]⟩]) ∧ Hid (Below w7.heap.size w7 wr) ∧ w7.heap.size + 1 ≤ wr.heap.size) (fun _ i _ => nn - (intOf i).toNat)
      case atStart => exact ⟨0, p, [], A, c, none, 0, by rw [HPL.out], rfl, Nat.zero_le _, StoAt.start HPO.out, .inl ⟨rfl, rfl, rfl⟩, by rw [HPL.out]; exact HNC.out, HCM.out, .inr ⟨rfl, rfl, rfl⟩, Nat.le_refl _, Nat.zero_le _, HO8.out, HB8.out, by omega⟩
      case round =>
        clear HO8 HB8
        obtain ⟨j, q, es, Aq, cq, EA, ec, rfl, rfl, hj, hSt, hPly, hqc, hcq, hAp, hje, hec, hOB, hBel, hwz⟩ := hrel
        by_cases hlt : j < nn
        · have hlz : (j : Int) < (nn : Int) := by omega
          obtain ⟨nb, noff, x, rfl, hnb, hx, y0⟩ := (HS7.out.below hBel.out (Nat.le_refl _)).str_at hlt
          have HX := Lib.hid hx
          have hxn := (name_len (nm_ok HOL.out hx)).2
          have hxd := HNE.out.2 x (List.mem_of_getElem? hx)
          clear hx
          obtain ⟨We, hWe⟩ : ∃ W, wr.alloc (.cells #[.string x, .bool false, .int .u64 0, .int .u64 0] 102) = W := ⟨_, rfl⟩
          have HEe : Hid (Bk We wr.heap.size 102 #[.string x, .bool false, .int .u64 0, .int .u64 0]) := by rw [← hWe]; exact Bk.new wr _ _
          have HBe : Hid (Below wr.heap.size wr We) := by rw [← hWe]; exact (Below.refl _ wr).alloc (Nat.le_refl _) _
          have ze : wr.heap.size + 1 = We.heap.size := by rw [← hWe]; simp
          have HSMe := Lib.hid (HSM7.out.below (hBel.out.trans (HBe.out.mono (by omega))))
          have hsm : x.size ≤ maxLen := by unfold maxLen; omega
          have hlk : (Instr.lookup 124 (.map (some (w.heap.size + 1 + 1))) (.string x) true).run Tryz.prog (wr.alloc (.cells #[.string x, .bool false, .int .u64 0, .int .u64 0] 102)) = .ok (.tuple #[(gf x).getD (.agg #[.string ⟨#[]⟩, .string ⟨#[]⟩]), .bool (gf x).isSome]) (wr.alloc (.cells #[.string x, .bool false, .int .u64 0, .int .u64 0] 102)) := by
            rw [hWe]
            exact HSMe.out.f.look_ok Tryz.underlying9 Tryz.underlying124 (Tryz.zeroValue68 _) hsm
          have hgf := HSMe.out.gfs x
          rw [hxd] at hgf
          have HPLN : Hid (q.length ≤ 800000) := by have h1 := hSt.out.plen; have h2 := HSZ.out; rw [← HPL.out] at h2; show _ ≤ _; omega
          have HPC0 := Lib.hid hPly
          have HWe := Lib.hid hWe
          clear hWe
          cases hlf : lookF9 l x with
          | some s =>
            have HLF := Lib.hid hlf
            rw [hlf] at hgf
            simp only [Bool.false_eq_true, if_false, Option.map_some] at hgf
            rw [hgf] at hlk
            simp only [Option.getD_some, Option.isSome_some, fileV] at hlk
            clear hgf hlf
            have hsd := HOL.out.data _ ((look9_some HOL.out.nod).1 HLF.out)
            simp only at hsd
            obtain ⟨W9, hW9⟩ : ∃ W, We.alloc (.cells #[.string x, .string s] 68) = W := ⟨_, rfl⟩
            have HE9 : Hid (Bk W9 wr.heap.size 102 #[.string x, .bool false, .int .u64 0, .int .u64 0]) := by rw [← hW9]; exact HEe.out.alloc _
            have HB9 : Hid (Below wr.heap.size wr W9) := by rw [← hW9]; exact HBe.out.alloc HBe.out.size _
            have HF9 : Hid (Bk W9 We.heap.size 68 #[.string x, .string s]) := by rw [← hW9]; exact Bk.new We _ _
            have z9 : We.heap.size + 1 = W9.heap.size := by rw [← hW9]; simp
            have HW9 := Lib.hid hW9
            have HBL := Lib.hid (blob_any s W9)
            clear hW9
            go_wp2_with fail
            rw [HWe.out, HW9.out]
            refine HBL.out.mono ?_
            rintro e w10 ⟨rfl, hb10⟩
            have HE10 := Lib.hid (HE9.out.below hb10 (by omega))
            have HB10 : Hid (Below wr.heap.size wr w10) := HB9.out.trans (hb10.mono HB9.out.size)
            have z10 : W9.heap.size ≤ w10.heap.size := hb10.size
            clear hb10 HBL HE9 HB9 HF9 HW9 HWe HEe HBe
            obtain ⟨⟨d1, d2⟩, hdd⟩ : ∃ d, dgO (blobO s) = d := ⟨_, rfl⟩
            have HPC := Lib.hid (pput_any Aq q.length cq w10.heap.size q (blobO s) zOs w10 (HPQ.out _ _ _ _ (hPly.out.below HB10.out) (HBw7.out.trans ((hBel.out.mono (by omega)).trans (HB10.out.mono (by omega))))) (obM_zero _ _ _) (Nat.le_refl _) hqc hcq (by have := HPLN.out; omega) hSt.out.ok.asc (okO_blob hsd))
            unfold PuE at HPC
            rw [hdd] at HPC
            simp only [digV, ← blobC_eq] at HPC
            have HDD := Lib.hid hdd
            clear hdd
            go_wp2_with fail
            refine HPC.out.mono ?_
            rintro e w11 ⟨hq, hb11⟩
            have HE11 := Lib.hid (HE10.out.below hb11 (by omega))
            have HB11 : Hid (Below wr.heap.size wr w11) := HB10.out.trans (hb11.mono HB10.out.size)
            have z11 : w10.heap.size ≤ w11.heap.size := hb11.size
            clear hb11 HE10 HB10
            rcases hq with ⟨q2, A2, c2, hz, rfl, hs11, hc2, hm2', hy⟩ | ⟨hz, rfl⟩
            · have HZ := Lib.hid hz; have HY := Lib.hid hy
              have HST := Lib.hid ((by have h9 := hSt.out.file HOL.out HX.out HLF.out HZ.out; rw [HDD.out] at h9; exact h9 : StoAt k l p (j + 1) q2 (es ++ [⟨x, false, (d1, d2)⟩])))
              clear hz hy hs11 HPC
              obtain ⟨W12, hW12⟩ : ∃ W, (w11.setCell ⟨wr.heap.size, 2, none⟩ (.int .u64 d1)).setCell ⟨wr.heap.size, 3, none⟩ (.int .u64 d2) = W := ⟨_, rfl⟩
              have HE12 : Hid (Bk W12 wr.heap.size 102 #[.string x, .bool false, .int .u64 d1, .int .u64 d2]) := by rw [← hW12]; exact (HE11.out.set 2 (.int .u64 d1)).set 3 (.int .u64 d2)
              have HB12 : Hid (Below wr.heap.size wr W12) := by rw [← hW12]; exact (HB11.out.setCell (p := ⟨wr.heap.size, 2, none⟩) (Nat.le_refl _) _).setCell (p := ⟨wr.heap.size, 3, none⟩) (Nat.le_refl _) _
              have HY12 : Hid (Ply W12 w.heap.size A c p A2 c2 q2) := by
                rw [← hW12]
                exact ((hPly.out.trans HB11.out HY.out (by omega)).box HE11.out (by decide) 2 _).box (HE11.out.set 2 (.int .u64 d1)) (by decide) 3 _
              have z12 : wr.heap.size < W12.heap.size := by rw [← hW12]; simp; omega
              have HO12 := Lib.hid (hOB.out.below HB12.out (by omega))
              have HA12 := Lib.hid (hAp.out.below HB12.out)
              have f2 := HE11.out.free 2; have f3 := HE11.out.free 3
              have u2 := HE11.out.cell 2; have u3 := HE11.out.cell 3
              simp at u2 u3
              obtain ⟨v0, v1, v2, v3⟩ := HE12.out.four
              obtain ⟨o0, o1, o2, o3, o4, o5, o6, o7, o8⟩ := HO12.out.nine
              go_wp2_with (at_builtin; refine halt_ ?_)
              refine unhalt ?_
              refine wpList_append_apd (base := w7.heap.size + 1) (size := 4) _ rfl (.tmp 104) (.tmp 106) 79 rfl 102 i0 _ 40 Tryz.underlying79 Hi.out Hz0.out Hz1.out Hz2.out rfl (by decide) EA j ec (flat enC es) rfl ?own_1 (W12.heap.size + 1) _ 1 _ (enC ⟨x, false, (d1, d2)⟩) rfl ?nw_1 (by simp [enC, Value.oneCell']) ?m1_1 ?m2_1 ?m3_1 ?_
              case own_1 => exact HA12.out.below ((Below.refl _ W12).alloc (Nat.le_refl _) _)
              case nw_1 =>
                have := Sl.of_bk (n := 1) (size := 4) (Bk.new W12 102 #[.string x, .bool false, .int .u64 d1, .int .u64 d2]) rfl
                rw [World.size_alloc] at this; exact this
              case m1_1 => unfold maxLen; omega
              case m2_1 => omega
              case m3_1 => simp; omega
              intro A4 c4 w13 ha4 hb4 hn4 hm4 hok4
              have HA13 : Hid (Apd w13 (w7.heap.size + 1) 102 4 A4 (j + 1) c4 (flat enC (es ++ [⟨x, false, (d1, d2)⟩]))) := by
                show Apd _ _ _ _ _ _ _ _
                rw [flat_append]
                simpa [flat] using ha4
              have HB13 : Hid (Below (w7.heap.size + 1) W12 w13) := ((Below.refl (w7.heap.size + 1) W12).alloc (by omega) _).trans hb4
              have HO13 := Lib.hid (HO12.out.below HB13.out (Nat.lt_succ_self _))
              have HY13 := Lib.hid ((HY12.out.below ((Below.refl _ W12).alloc (Nat.le_refl _) (.cells #[.string x, .bool false, .int .u64 d1, .int .u64 d2] 102))).others hok4 (by decide))
              have HBB : Hid (Below w7.heap.size w7 w13) := hBel.out.trans ((HB12.out.mono (by omega)).trans (HB13.out.mono (by omega)))
              have hz13 : w7.heap.size + 1 ≤ w13.heap.size := by have := HB13.out.size; omega
              clear ha4 hb4 hok4 o0 o1 o2 o3 o4 o5 o6 o7 o8 v0 v1 v2 v3 u2 u3 f2 f3 hW12 HE11 HB11 HA12 HO12
              obtain ⟨o0, o1, o2, o3, o4, o5, o6, o7, o8⟩ := HO13.out.nine
              have g2 := HO13.out.free 2
              go_wp2_with fail
              go_roundw
              case rel => exact ⟨j + 1, q2, _, A2, c2, A4, c4, by go_num, by go_num, hlt, HST.out, HY13.out.box HO13.out (by decide) 2 _, hc2, hm2', HA13.out.setCell (a := ⟨w7.heap.size, 2, none⟩) (Nat.lt_succ_self _) _, hn4, hm4, HO13.out.set 2 (.slice A4 (j + 1) c4), HBB.out.setCell (p := ⟨w7.heap.size, 2, none⟩) (Nat.le_refl _) _, by simpa using hz13⟩
              case measure => simp [intOf]; omega
            · have HN : Hid (sto (k + 1) p l = none) := hSt.out.filex HX.out HLF.out hz
              have HDx := Lib.hid (HD7.out.below (hBel.out.trans (HB11.out.mono (by omega))) (by omega))
              have HBx : Hid (Below w.heap.size w w11) := HBw7.out.trans ((hBel.out.trans (HB11.out.mono (by omega))).mono (by omega))
              clear hz HPC
              have f2 := HE11.out.free 2; have f3 := HE11.out.free 3
              have u2 := HE11.out.cell 2; have u3 := HE11.out.cell 3
              simp at u2 u3
              obtain ⟨W12, hW12⟩ : ∃ W, (w11.setCell ⟨wr.heap.size, 2, none⟩ (.int .u64 zD.1)).setCell ⟨wr.heap.size, 3, none⟩ (.int .u64 zD.2) = W := ⟨_, rfl⟩
              have HDy : Hid (Bk W12 w.heap.size 30 #[.int .u64 0, .int .u64 0]) := by rw [← hW12]; exact (HDx.out.far (p := ⟨wr.heap.size, 2, none⟩) (by show w.heap.size ≠ wr.heap.size; omega) _).far (p := ⟨wr.heap.size, 3, none⟩) (by show w.heap.size ≠ wr.heap.size; omega) _
              have HBy : Hid (Below w.heap.size w W12) := by rw [← hW12]; exact (HBx.out.setCell (p := ⟨wr.heap.size, 2, none⟩) (by show w.heap.size ≤ wr.heap.size; omega) _).setCell (p := ⟨wr.heap.size, 3, none⟩) (by show w.heap.size ≤ wr.heap.size; omega) _
              obtain ⟨d0', d1', _, _⟩ := HDy.out.two
              have e0 := HDy.out.free 0; have e1 := HDy.out.free 1
              go_wp2_with fail
              refine bodyPost_ret (res_pcp Tryz.results45 rfl rfl (HDy.out.set2 _ _) rfl) rfl ⟨.inr ⟨HN.out, rfl⟩, below_set2 HBy.out (Nat.le_refl _) _ _⟩
          | none =>
            have HLF := Lib.hid hlf
            have HNE2 := Lib.hid (dir_ne (List.mem_of_getElem? HX.out) hlf)
            rw [hlf] at hgf
            simp only [Bool.false_eq_true, if_false, Option.map_none] at hgf
            rw [hgf] at hlk
            simp only [Option.getD_none, Option.isSome_none] at hlk
            clear hgf hlf
            obtain ⟨W9, hW9⟩ : ∃ W, ((wr.alloc (.cells #[.string x, .bool false, .int .u64 0, .int .u64 0] 102)).alloc (.cells #[.string ⟨#[]⟩, .string ⟨#[]⟩] 68)).setCell ⟨wr.heap.size, 1, none⟩ (.bool true) = W := ⟨_, rfl⟩
            have HEx : Hid (Bk ((wr.alloc (.cells #[.string x, .bool false, .int .u64 0, .int .u64 0] 102)).alloc (.cells #[.string ⟨#[]⟩, .string ⟨#[]⟩] 68)) wr.heap.size 102 #[.string x, .bool false, .int .u64 0, .int .u64 0]) := (Bk.new wr _ _).alloc _
            have HE9 : Hid (Bk W9 wr.heap.size 102 #[.string x, .bool true, .int .u64 0, .int .u64 0]) := by rw [← hW9]; exact HEx.out.set 1 (.bool true)
            have HB9 : Hid (Below wr.heap.size wr W9) := by rw [← hW9]; exact (((Below.refl _ wr).alloc (Nat.le_refl _) _).alloc (by simp) _).setCell (p := ⟨wr.heap.size, 1, none⟩) (Nat.le_refl _) _
            have z9 : wr.heap.size + 2 = W9.heap.size := by rw [← hW9]; simp
            have HSM9 := Lib.hid (HSM7.out.below (hBel.out.trans (HB9.out.mono (by omega))))
            have hlb : (Instr.lookup 123 (.map (some (w.heap.size + 1))) (.string x) false).run Tryz.prog (((wr.alloc (.cells #[.string x, .bool false, .int .u64 0, .int .u64 0] 102)).alloc (.cells #[.string ⟨#[]⟩, .string ⟨#[]⟩] 68)).setCell ⟨wr.heap.size, 1, none⟩ (.bool true)) = .ok ((gb x).getD nilS) (((wr.alloc (.cells #[.string x, .bool false, .int .u64 0, .int .u64 0] 102)).alloc (.cells #[.string ⟨#[]⟩, .string ⟨#[]⟩] 68)).setCell ⟨wr.heap.size, 1, none⟩ (.bool true)) := by
              rw [hW9]
              exact HSM9.out.b.look Tryz.underlying9 Tryz.underlying123 (Tryz.zeroValue24 _) hsm
            have HW9 := Lib.hid hW9
            have y1 := HEx.out.cell 1
            simp at y1
            have f1 := HEx.out.free 1
            clear hW9
            have HOW := Lib.hid (HSM9.out.rows.own x)
            obtain ⟨vb, hvb⟩ : ∃ v, (gb x).getD nilS = v := ⟨_, rfl⟩
            simp only [hvb] at HOW
            have HV : Hid (∃ Ab cb, vb = .slice Ab (inD l x).length cb) := by
              rcases HOW.out.2 with ⟨h1, h2⟩ | ⟨g, cap, cur, h1, _⟩
              · exact ⟨none, 0, by rw [h1, h2]⟩
              · exact ⟨_, _, h1⟩
            obtain ⟨Ab, cb, rfl⟩ := HV.out
            rw [hvb] at hlb
            have HSB := Lib.hid (Sl.of_own HOW.out)
            have HLN : Hid (q.length + wt (inD l x) ≤ 800000) := by
              have h1 := hSt.out.len
              rw [rem_step HX.out] at h1
              have h2 := wt_sub l x
              have h3 := HSZ.out
              rw [← HPL.out] at h3
              show _ ≤ _; omega
            obtain ⟨k', rfl⟩ : ∃ k', k = k' + 1 := by
              obtain ⟨f, hf⟩ := List.exists_mem_of_ne_nil _ HNE2.out
              obtain ⟨g, hg, h1, _, _⟩ := mem_inD.1 hf
              have h3 := (path_rest (HOL.out.path g hg) h1).2
              have h4 := HLK.out g hg
              exact ⟨k - 1, by omega⟩
            have HPC := Lib.hid (IH.out k' rfl (inD l x) (HOL.out.sub x) (fun f hf => by
              obtain ⟨g, hg, h1, h2, rfl⟩ := mem_inD.1 hf
              have h3 := (path_rest (HOL.out.path g hg) h1).2
              have h4 := HLK.out g hg
              simp only
              omega) q Aq q.length cq Ab (inD l x).length cb W9.heap.size W9 (HPQ.out _ _ _ _ (hPly.out.below HB9.out) (HBw7.out.trans ((hBel.out.mono (by omega)).trans (HB9.out.mono (by omega))))) HSB.out (Nat.le_refl _) hqc hcq hSt.out.ok HLN.out)
            unfold StoE at HPC
            simp only [digV] at HPC
            obtain ⟨ib, hib⟩ : ∃ ib, (inD l x).length = ib := ⟨_, rfl⟩
            rw [hib] at hlb HPC
            clear hvb hib HOW
            go_wp2_with fail
            rw [HW9.out]
            refine HPC.out.mono ?_
            rintro e w11 ⟨hq, hb11⟩
            have HE11 := Lib.hid (HE9.out.below hb11 (by omega))
            have HB11 : Hid (Below wr.heap.size wr w11) := HB9.out.trans (hb11.mono HB9.out.size)
            have z11 : W9.heap.size ≤ w11.heap.size := hb11.size
            clear hb11 HE9 HB9 HW9 hlb y1 f1 HEx HWe HEe HBe
            rcases hq with ⟨q2, ⟨d1, d2⟩, A2, c2, hz, hrr, rfl, hs11, hc2, hm2', hy⟩ | ⟨hz, rfl⟩
            · have HZ := Lib.hid hz; have HY := Lib.hid hy
              have HRR := Lib.hid hrr
              clear hrr
              have HST := Lib.hid (hSt.out.dir HOL.out HX.out HLF.out HZ.out HRR.out HNE2.out)
              clear hz hy hs11 HPC
              obtain ⟨W12, hW12⟩ : ∃ W, (w11.setCell ⟨wr.heap.size, 2, none⟩ (.int .u64 d1)).setCell ⟨wr.heap.size, 3, none⟩ (.int .u64 d2) = W := ⟨_, rfl⟩
              have HE12 : Hid (Bk W12 wr.heap.size 102 #[.string x, .bool true, .int .u64 d1, .int .u64 d2]) := by rw [← hW12]; exact (HE11.out.set 2 (.int .u64 d1)).set 3 (.int .u64 d2)
              have HB12 : Hid (Below wr.heap.size wr W12) := by rw [← hW12]; exact (HB11.out.setCell (p := ⟨wr.heap.size, 2, none⟩) (Nat.le_refl _) _).setCell (p := ⟨wr.heap.size, 3, none⟩) (Nat.le_refl _) _
              have HY12 : Hid (Ply W12 w.heap.size A c p A2 c2 q2) := by
                rw [← hW12]
                exact ((hPly.out.trans HB11.out HY.out (by omega)).box HE11.out (by decide) 2 _).box (HE11.out.set 2 (.int .u64 d1)) (by decide) 3 _
              have z12 : wr.heap.size < W12.heap.size := by rw [← hW12]; simp; omega
              have HO12 := Lib.hid (hOB.out.below HB12.out (by omega))
              have HA12 := Lib.hid (hAp.out.below HB12.out)
              have f2 := HE11.out.free 2; have f3 := HE11.out.free 3
              have u2 := HE11.out.cell 2; have u3 := HE11.out.cell 3
              simp at u2 u3
              obtain ⟨v0, v1, v2, v3⟩ := HE12.out.four
              obtain ⟨o0, o1, o2, o3, o4, o5, o6, o7, o8⟩ := HO12.out.nine
              go_wp2_with (at_builtin; refine halt_ ?_)
              refine unhalt ?_
              refine wpList_append_apd (base := w7.heap.size + 1) (size := 4) _ rfl (.tmp 104) (.tmp 106) 79 rfl 102 i0 _ 40 Tryz.underlying79 Hi.out Hz0.out Hz1.out Hz2.out rfl (by decide) EA j ec (flat enC es) rfl ?own_1 (W12.heap.size + 1) _ 1 _ (enC ⟨x, true, (d1, d2)⟩) rfl ?nw_1 (by simp [enC, Value.oneCell']) ?m1_1 ?m2_1 ?m3_1 ?_
              case own_1 => exact HA12.out.below ((Below.refl _ W12).alloc (Nat.le_refl _) _)
              case nw_1 =>
                have := Sl.of_bk (n := 1) (size := 4) (Bk.new W12 102 #[.string x, .bool true, .int .u64 d1, .int .u64 d2]) rfl
                rw [World.size_alloc] at this; exact this
              case m1_1 => unfold maxLen; omega
              case m2_1 => omega
              case m3_1 => simp; omega
              intro A4 c4 w13 ha4 hb4 hn4 hm4 hok4
              have HA13 : Hid (Apd w13 (w7.heap.size + 1) 102 4 A4 (j + 1) c4 (flat enC (es ++ [⟨x, true, (d1, d2)⟩]))) := by
                show Apd _ _ _ _ _ _ _ _
                rw [flat_append]
                simpa [flat] using ha4
              have HB13 : Hid (Below (w7.heap.size + 1) W12 w13) := ((Below.refl (w7.heap.size + 1) W12).alloc (by omega) _).trans hb4
              have HO13 := Lib.hid (HO12.out.below HB13.out (Nat.lt_succ_self _))
              have HY13 := Lib.hid ((HY12.out.below ((Below.refl _ W12).alloc (Nat.le_refl _) (.cells #[.string x, .bool true, .int .u64 d1, .int .u64 d2] 102))).others hok4 (by decide))
              have HBB : Hid (Below w7.heap.size w7 w13) := hBel.out.trans ((HB12.out.mono (by omega)).trans (HB13.out.mono (by omega)))
              have hz13 : w7.heap.size + 1 ≤ w13.heap.size := by have := HB13.out.size; omega
              clear ha4 hb4 hok4 o0 o1 o2 o3 o4 o5 o6 o7 o8 v0 v1 v2 v3 u2 u3 f2 f3 hW12 HE11 HB11 HA12 HO12
              obtain ⟨o0, o1, o2, o3, o4, o5, o6, o7, o8⟩ := HO13.out.nine
              have g2 := HO13.out.free 2
              go_wp2_with fail
              go_roundw
              case rel => exact ⟨j + 1, q2, _, A2, c2, A4, c4, by go_num, by go_num, hlt, HST.out, HY13.out.box HO13.out (by decide) 2 _, hc2, hm2', HA13.out.setCell (a := ⟨w7.heap.size, 2, none⟩) (Nat.lt_succ_self _) _, hn4, hm4, HO13.out.set 2 (.slice A4 (j + 1) c4), HBB.out.setCell (p := ⟨w7.heap.size, 2, none⟩) (Nat.le_refl _) _, by simpa using hz13⟩
              case measure => simp [intOf]; omega
            · have HN : Hid (sto (k' + 1 + 1) p l = none) := hSt.out.dirx HX.out HLF.out hz
              have HDx := Lib.hid (HD7.out.below (hBel.out.trans (HB11.out.mono (by omega))) (by omega))
              have HBx : Hid (Below w.heap.size w w11) := HBw7.out.trans ((hBel.out.trans (HB11.out.mono (by omega))).mono (by omega))
              clear hz HPC
              have f2 := HE11.out.free 2; have f3 := HE11.out.free 3
              have u2 := HE11.out.cell 2; have u3 := HE11.out.cell 3
              simp at u2 u3
              obtain ⟨W12, hW12⟩ : ∃ W, (w11.setCell ⟨wr.heap.size, 2, none⟩ (.int .u64 zD.1)).setCell ⟨wr.heap.size, 3, none⟩ (.int .u64 zD.2) = W := ⟨_, rfl⟩
              have HDy : Hid (Bk W12 w.heap.size 30 #[.int .u64 0, .int .u64 0]) := by rw [← hW12]; exact (HDx.out.far (p := ⟨wr.heap.size, 2, none⟩) (by show w.heap.size ≠ wr.heap.size; omega) _).far (p := ⟨wr.heap.size, 3, none⟩) (by show w.heap.size ≠ wr.heap.size; omega) _
              have HBy : Hid (Below w.heap.size w W12) := by rw [← hW12]; exact (HBx.out.setCell (p := ⟨wr.heap.size, 2, none⟩) (by show w.heap.size ≤ wr.heap.size; omega) _).setCell (p := ⟨wr.heap.size, 3, none⟩) (by show w.heap.size ≤ wr.heap.size; omega) _
              obtain ⟨d0', d1', _, _⟩ := HDy.out.two
              have e0 := HDy.out.free 0; have e1 := HDy.out.free 1
              go_wp2_with fail
              refine bodyPost_ret (res_pcp Tryz.results45 rfl rfl (HDy.out.set2 _ _) rfl) rfl ⟨.inr ⟨HN.out, rfl⟩, below_set2 HBy.out (Nat.le_refl _) _ _⟩
        · have hlz : ¬ (j : Int) < (nn : Int) := by omega
          have HJN : Hid (j = nn) := by show _ = _; omega
          have HBz : Hid (Below w.heap.size w wr) := HBw7.out.trans (hBel.out.mono (by omega))
          have HDz := Lib.hid (HD7.out.below hBel.out (by omega))
          have HELN : Hid (es.length = j) := hSt.out.elen (by rw [HNL.out]; exact hj)
          have HES := Lib.hid (hSt.out.es HOL.out)
          have HPC := Lib.hid (pput_any Aq q.length cq wr.heap.size q (treeO es) ⟨EA, j, ec, none, 0, 0⟩ wr (HPQ.out _ _ _ _ hPly.out HBz.out) ⟨hAp.out.sl, Sl.nil _ _ _ _, hje, hec, Nat.le_refl _, Nat.zero_le _⟩ (Nat.le_refl _) hqc hcq (by have h1 := hSt.out.plen; have h2 := HSZ.out; rw [← HPL.out] at h2; omega) hSt.out.ok.asc (okO_treeO HES.out))
          unfold PuE at HPC
          obtain ⟨⟨d1, d2⟩, hdd⟩ : ∃ d, dgO (treeO es) = d := ⟨_, rfl⟩
          have HDD := Lib.hid hdd
          rw [hdd] at HPC
          simp only [digV, obV, obC, treeO] at HPC
          clear hdd
          obtain ⟨o0, o1, o2, o3, o4, o5, o6, o7, o8⟩ := hOB.out.nine
          go_wp2_with fail
          refine HPC.out.mono ?_
          rintro e w11 ⟨hq, hb11⟩
          have HB11 : Hid (Below w.heap.size w w11) := HBz.out.trans (hb11.mono HBz.out.size)
          have HD11 := Lib.hid (HDz.out.below hb11 (by omega))
          obtain ⟨t0, t1, _, _⟩ := HD11.out.two
          have e0 := HD11.out.free 0; have e1 := HD11.out.free 1
          have HBW := Lib.hid hb11
          clear hb11 HPC o0 o1 o2 o3 o4 o5 o6 o7 o8
          rcases hq with ⟨q2, A2, c2, hz, rfl, hs11, hc2, hm2', hy⟩ | ⟨hz, rfl⟩
          · have HN : Hid (sto (k + 1) p l = some (q2, (d1, d2))) := by
              have := hSt.out.done (by rw [HNL.out, HJN.out]; exact Nat.le_refl _) hz
              rw [HDD.out] at this; exact this
            have HRR : Hid (StoR p q2 (d1, d2) l) := by
              have := hSt.out.res HOL.out hz
              rw [HDD.out] at this; exact this
            have HY : Hid (Ply w11 w.heap.size A c p A2 c2 q2) := hPly.out.trans HBW.out hy (by have := HBz.out.size; omega)
            have HY2 : Hid (Ply ((w11.setCell ⟨w.heap.size, 0, none⟩ (.int .u64 d1)).setCell ⟨w.heap.size, 1, none⟩ (.int .u64 d2)) w.heap.size A c p A2 c2 q2) := (HY.out.box HD11.out (by decide) 0 _).box (HD11.out.set 0 (.int .u64 d1)) (by decide) 1 _
            clear hz hy hs11
            go_wp2_with fail
            refine bodyPost_ret (res_pcp Tryz.results45 rfl rfl (HD11.out.set2 _ _) rfl) rfl ⟨.inl ⟨q2, (d1, d2), A2, c2, HN.out, HRR.out, rfl, ?_, hc2, hm2', HY2.out⟩, below_set2 HB11.out (Nat.le_refl _) _ _⟩
            exact HPQ.out _ _ _ _ HY2.out (below_set2 HB11.out (Nat.le_refl _) _ _)
          · have HN : Hid (sto (k + 1) p l = none) := hSt.out.donex (by rw [HNL.out, HJN.out]; exact Nat.le_refl _) hz
            clear hz
            go_wp2_with fail
            refine bodyPost_ret (res_pcp Tryz.results45 rfl rfl (HD11.out.set2 _ _) rfl) rfl ⟨.inr ⟨HN.out, rfl⟩, below_set2 HB11.out (Nat.le_refl _) _ _⟩
theorem store_all : ∀ k, StoC k := by
  intro k
  induction k with
  | zero => exact store_core 0 (fun k' h => by omega)
  | succ k ih => exact store_core (k + 1) (fun k' h => by obtain rfl : k' = k := (by omega); exact ih)
end Go.Proofs.YtmdhlkkekidknaaGreatDoor

namespace Go.Proofs.YtmdhlkkekidknaaGreatDoor
open Go.RowKit

def StrE (p : List Itm) (l : List Fl) (w : World) (e : Ending) (w' : World) : Prop :=
  ((∃ z, TckR l z ∧ z ≠ 0 ∧ e = .returned (.tuple #[.slice none 0 0, digV zD, .int .i64 z])) ∨
   (TckR l 0 ∧ ((∃ q d A c, sto 101 p l = some (q, d) ∧ StoR p q d l ∧ e = .returned (.tuple #[.slice A q.length c, digV d, .int .i64 0]) ∧ Sl w' w'.heap.size 3 A q.length (flat itC q) ∧ q.length ≤ c ∧ c ≤ maxLen) ∨ (sto 101 p l = none ∧ e = .returned (.tuple #[.slice none 0 0, digV zD, .int .i64 16]))))) ∧ Below w.heap.size w w'
theorem wt_ok {l : List Fl} (h : OkL l) : wt l ≤ 20200 := by
  have h1 := wt_le (l := l) (k := 100) (fun f hf => path_len (h.path f hf))
  have h2 := h.few
  have : (100 + 1) * l.length ≤ 101 * 200 := Nat.mul_le_mul_left 101 h2
  omega
set_option maxRecDepth 100000 in
set_option maxHeartbeats 4000000 in
theorem tstore_any (A : Option Addr) (n c B : Nat) (p : List Itm) (A1 : Option Addr) (m c1 : Nat) (l : List Fl) (w : World) (h0 : Sl w B 3 A n (flat itC p)) (h1 : Sl w B 2 A1 m (flat flC l)) (hB : B ≤ w.heap.size) (hnc : n ≤ c) (hcm : c ≤ maxLen) (hn : n ≤ 700000) (hm : m ≤ 1000000) (hp : PlOk p) (hsz : ∀ f ∈ l, f.1.size ≤ 1000000 ∧ f.2.size ≤ 60000) :
    Calls Tryz.prog 15 #[.slice A n c, .slice A1 m c1] w (StrE p l w) := by
  have HP := Lib.hid hp; have H0 := Lib.hid h0; have H1 := Lib.hid h1; have HSZ := Lib.hid hsz; have HNC := Lib.hid hnc; have HCM := Lib.hid hcm
  obtain ⟨W, hW⟩ : ∃ W, w.alloc (.cells #[.int .u64 0, .int .u64 0] 30) = W := ⟨_, rfl⟩
  have HB0 : Hid (Below w.heap.size w W) := by rw [← hW]; exact (Below.refl _ w).alloc (Nat.le_refl _) _
  have HD : Hid (Bk W w.heap.size 30 #[.int .u64 0, .int .u64 0]) := by rw [← hW]; exact Bk.new w _ _
  have HC := Lib.hid (tcheck_any A1 m c1 B l W (h1.below HB0.out hB) (Nat.le_trans hB HB0.out.size) hm hsz)
  have HW := Lib.hid hW
  have zW : w.heap.size < W.heap.size := HD.out.lt
  clear hp h0 h1 hsz hnc hcm hW
  go_enter Tryz.func15, Tryz.ntmps15
  go_wp2_with fail
  rw [HW.out]
  refine HC.out.mono ?_
  rintro e w2 ⟨z, rfl, hz, hb⟩
  have HZ := Lib.hid hz
  have HB2 : Hid (Below w.heap.size w w2) := HB0.out.trans (hb.mono HB0.out.size)
  have HD2 := Lib.hid (HD.out.below hb zW)
  obtain ⟨y0, y1, _, _⟩ := HD2.out.two
  have g0 := HD2.out.free 0; have g1 := HD2.out.free 1
  have z2 := hb.size
  clear hz hb HC
  by_cases h0 : z = 0
  · have t1 : (z != 0) = false := by rw [h0]; rfl
    have HZ0 : Hid (TckR l 0) := by show TckR l 0; rw [← h0]; exact HZ.out
    obtain ⟨hok, _⟩ := ck_ok HZ0.out (fun f hf => (HSZ.out f hf).2)
    have hwt := wt_ok hok
    have HS := Lib.hid (store_all 100 l hok (fun f hf => path_len (hok.path f hf)) p A n c A1 m c1 B w2 (H0.out.below HB2.out hB) (H1.out.below HB2.out hB) (Nat.le_trans hB HB2.out.size) HNC.out HCM.out HP.out (by omega))
    unfold StoE at HS
    simp only [digV] at HS
    clear h0 hok hwt
    go_wp2_with fail
    refine HS.out.mono ?_
    rintro e w3 ⟨hq, hb⟩
    have HB3 : Hid (Below w.heap.size w w3) := HB2.out.trans (hb.mono HB2.out.size)
    have HD3 := Lib.hid (HD2.out.below hb (by omega))
    obtain ⟨y0, y1, _, _⟩ := HD3.out.two
    have g0 := HD3.out.free 0; have g1 := HD3.out.free 1
    clear hb HS
    rcases hq with ⟨q, ⟨d1, d2⟩, A2, c2, hs, hr, rfl, hsl, hc2, hm2, _⟩ | ⟨hs, rfl⟩
    · have HN := Lib.hid hs; have HR := Lib.hid hr; have HSL := Lib.hid hsl
      have HNE := Lib.hid (HSL.out.dgbox HD3.out)
      clear hs hr hsl
      go_wp2_with fail
      refine bodyPost_ret (res_pcp Tryz.results15 rfl rfl (HD3.out.set2 _ _) rfl) rfl ⟨.inr ⟨HZ0.out, .inl ⟨q, (d1, d2), A2, c2, HN.out, HR.out, rfl, ?_, hc2, hm2⟩⟩, below_set2 HB3.out (Nat.le_refl _) _ _⟩
      have := HSL.out.ne (b := w.heap.size) HNE.out (fun k hk => (Below.heap_setCell (w3.setCell ⟨w.heap.size, 0, none⟩ (.int .u64 d1)) ⟨w.heap.size, 1, none⟩ (.int .u64 d2) k hk).trans (Below.heap_setCell w3 ⟨w.heap.size, 0, none⟩ (.int .u64 d1) k hk))
      simpa using this
    · have HN := Lib.hid hs
      clear hs
      go_wp2_with fail
      refine bodyPost_ret (res_pcp Tryz.results15 rfl rfl (HD3.out.set2 _ _) rfl) rfl ⟨.inr ⟨HZ0.out, .inr ⟨HN.out, rfl⟩⟩, below_set2 HB3.out (Nat.le_refl _) _ _⟩
  · have t1 : (z != 0) = true := by rw [bne_iff_ne]; exact h0
    have H0' := Lib.hid h0
    clear h0
    go_wp2_with fail
    refine bodyPost_ret (res_pcp Tryz.results15 rfl rfl (HD2.out.set2 _ _) rfl) rfl ⟨.inl ⟨z, HZ.out, H0'.out, rfl⟩, below_set2 HB2.out (Nat.le_refl _) _ _⟩
end Go.Proofs.YtmdhlkkekidknaaGreatDoor

namespace Go.Proofs.YtmdhlkkekidknaaGreatDoor
open Go.RowKit Go.Shelf

theorem insL_with {l : List Fl} (h : AscF l) {f : Fl} (hn : lookF9 l f.1 = none) : insL l (atF l f.1) f = withF l f := by
  unfold insL withF
  obtain ⟨h1, h2⟩ := atF_split h f.1
  rw [h1, h2]
  congr 2
  refine List.filter_congr (fun g hg => ?_)
  have hne := look9_none.1 hn g hg
  cases h3 : less g.1 f.1 with
  | true => rw [lessB_asymm h3]; rfl
  | false =>
    cases h4 : less f.1 g.1 with
    | true => rfl
    | false => exact absurd (lessB_conn h3 h4) hne
theorem drop_more {l : List Fl} (h : AscF l) {s : ByteArray} {g : Fl} (hg : l[atF l s]? = some g) (he : g.1 = s) : l.drop (atF l s + 1) = l.filter (fun x => less s x.1) := by
  obtain ⟨h1, h2⟩ := atF_split h s
  have hd := drop_at hg
  have hl : l = l.take (atF l s) ++ g :: l.drop (atF l s + 1) := by rw [← hd, List.take_append_drop]
  have ha : AscF (g :: l.drop (atF l s + 1)) := by rw [← hd]; exact List.Pairwise.sublist (List.drop_sublist _ _) h
  have e1 : (l.take (atF l s)).filter (fun x => less s x.1) = [] := filter_none (fun x hx => by
    rw [h1, List.mem_filter] at hx
    exact lessB_asymm hx.2)
  have e2 : (l.drop (atF l s + 1)).filter (fun x => less s x.1) = l.drop (atF l s + 1) := filter_all (fun x hx => by rw [← he]; exact ha.head hx)
  conv => rhs; rw [hl]
  rw [List.filter_append, e1, List.nil_append, List.filter_cons_of_neg (by rw [he, lessB_irrefl]; simp), e2]
theorem set_with {l : List Fl} (h : AscF l) {f g : Fl} (hg : l[atF l f.1]? = some g) (he : g.1 = f.1) : l.take (atF l f.1) ++ f :: l.drop (atF l f.1 + 1) = withF l f := by
  rw [drop_more h hg he, (atF_split h f.1).1]; rfl
theorem del_wot {l : List Fl} (h : AscF l) {s : ByteArray} {g : Fl} (hg : l[atF l s]? = some g) (he : g.1 = s) : delL l (atF l s) = wotF l s := by
  refine AscF.ext (List.Pairwise.sublist ?_ h) (asc_wotF h s) (fun x => ?_)
  · unfold delL
    conv => rhs; rw [← List.take_append_drop (atF l s) l, drop_at hg]
    exact List.Sublist.append_left (List.sublist_cons_self _ _) _
  · unfold delL
    rw [drop_more h hg he, (atF_split h s).1, List.mem_append, List.mem_filter, List.mem_filter, mem_wotF]
    constructor
    · rintro (⟨h1, h2⟩ | ⟨h1, h2⟩)
      · exact ⟨h1, lessB_ne h2⟩
      · exact ⟨h1, fun e => lessB_ne h2 e.symm⟩
    · rintro ⟨h1, h2⟩
      cases h3 : less x.1 s with
      | true => exact .inl ⟨h1, rfl⟩
      | false =>
        cases h4 : less s x.1 with
        | true => exact .inr ⟨h1, rfl⟩
        | false => exact absurd (lessB_conn h3 h4) h2
theorem Sl.replace {w : World} {B n g i : Nat} {l : List Fl} {f : Fl} (h : Sl w B 2 (some ⟨g, 0, none⟩) n (flat flC l)) (hn : l.length = n) (hi : i < n) : Sl ((w.setCell ⟨g, i * 2, none⟩ (.string f.1)).setCell ⟨g, i * 2 + 1, none⟩ (.string f.2)) B 2 (some ⟨g, 0, none⟩) n (flat flC (l.take i ++ f :: l.drop (i + 1))) := by
  obtain ⟨hl, hc⟩ := h
  have hl2 : (flat flC l).length = n * 2 := hl
  refine ⟨by rw [flat_len flC_len, ← hn]; simp; omega, fun h0 => ?_⟩
  obtain ⟨b', off', e, hb, hcell⟩ := hc h0
  injection e with e
  injection e with e1 e2
  subst e1; subst e2
  refine ⟨g, 0, rfl, hb, fun j u hu => ?_⟩
  rw [flat_append, flat_take flC_len] at hu
  have hf : flat flC (f :: l.drop (i + 1)) = flC f ++ (flat flC l).drop ((i + 1) * 2) := by
    show flC f ++ flat flC (l.drop (i + 1)) = _
    rw [flat_drop flC_len]
  rw [hf] at hu
  have htl : ((flat flC l).take (i * 2)).length = i * 2 := by rw [List.length_take]; omega
  have hcl : ∀ j, j < n * 2 → w.cell? ⟨g, j, none⟩ = (flat flC l)[j]? := fun j hj => by
    have := hcell j _ (List.getElem?_eq_getElem (by omega))
    rw [Nat.zero_add] at this
    rw [this, List.getElem?_eq_getElem (by omega)]
  rw [Nat.zero_add]
  by_cases ha : j < i * 2
  · rw [List.getElem?_append_left (by omega), List.getElem?_take, if_pos ha] at hu
    rw [World.cell?_setCell_other _ _ _ _ (by intro e; injection e with _ e; omega), World.cell?_setCell_other _ _ _ _ (by intro e; injection e with _ e; omega), hcl j (by omega)]
    exact hu
  · rw [List.getElem?_append_right (by omega), htl] at hu
    have c0 : (w.cell? ⟨g, i * 2, none⟩).isSome = true := by rw [hcl _ (by omega), List.getElem?_eq_getElem (by omega)]; rfl
    have c1 : (w.cell? ⟨g, i * 2 + 1, none⟩).isSome = true := by rw [hcl _ (by omega), List.getElem?_eq_getElem (by omega)]; rfl
    rcases Nat.lt_or_ge j (i * 2 + 2) with hb' | hb'
    · rw [List.getElem?_append_left (by have : (flC f).length = 2 := rfl; omega)] at hu
      rcases Nat.lt_or_ge j (i * 2 + 1) with hc' | hc'
      · have e : j = i * 2 := by omega
        subst e
        rw [Nat.sub_self] at hu
        rw [World.cell?_setCell_other _ _ _ _ (by simp)]
        obtain ⟨v, hv⟩ := Option.isSome_iff_exists.1 c0
        rw [World.cell?_setCell_same _ _ _ hv]
        exact hu
      · have e : j = i * 2 + 1 := by omega
        subst e
        rw [show i * 2 + 1 - i * 2 = 1 by omega] at hu
        obtain ⟨v, hv⟩ := Option.isSome_iff_exists.1 c1
        rw [World.cell?_setCell_same _ _ _ (u := v) (by rw [World.cell?_setCell_other _ _ _ _ (by simp)]; exact hv)]
        exact hu
    · rw [List.getElem?_append_right (by have : (flC f).length = 2 := rfl; omega), List.getElem?_drop] at hu
      have hj : j < n * 2 := by
        have := (List.getElem?_eq_some_iff.1 hu).1
        have : (flC f).length = 2 := rfl
        omega
      rw [World.cell?_setCell_other _ _ _ _ (by intro e; injection e with _ e; omega), World.cell?_setCell_other _ _ _ _ (by intro e; injection e with _ e; omega), hcl j hj, ← hu]
      congr 1
      have : (flC f).length = 2 := rfl
      omega
end Go.Proofs.YtmdhlkkekidknaaGreatDoor

namespace Go.Proofs.YtmdhlkkekidknaaGreatDoor
open Go.RowKit Go.Shelf

def EdtE (p : List Itm) (d : Dig) (f : List Fl → Int × List Fl) (w : World) (e : Ending) (w' : World) : Prop :=
  ((∃ err, LodE p d err ∧ err ≠ 0 ∧ e = .returned (.tuple #[.slice none 0 0, digV zD, .int .i64 err])) ∨
   (∃ fs, LdSeq p d fs ∧ (((f fs).1 ≠ 0 ∧ e = .returned (.tuple #[.slice none 0 0, digV zD, .int .i64 (f fs).1])) ∨ ((f fs).1 = 0 ∧
    ((∃ z, TckR (f fs).2 z ∧ z ≠ 0 ∧ e = .returned (.tuple #[.slice none 0 0, digV zD, .int .i64 z])) ∨
     (TckR (f fs).2 0 ∧ ((∃ q dd A c, sto 101 p (f fs).2 = some (q, dd) ∧ StoR p q dd (f fs).2 ∧ e = .returned (.tuple #[.slice A q.length c, digV dd, .int .i64 0]) ∧ Sl w' w'.heap.size 3 A q.length (flat itC q) ∧ q.length ≤ c ∧ c ≤ maxLen) ∨ (sto 101 p (f fs).2 = none ∧ e = .returned (.tuple #[.slice none 0 0, digV zD, .int .i64 16])))))))))
  ∧ Below w.heap.size w w'
theorem own_fl {w : World} {base n c i : Nat} {A : Option Addr} {l : List Fl} (h : w.ownsRow base 68 2 (.slice A n c) n (flat flC l)) (hn : l.length = n) (hi : i < n) :
    ∃ g x y, A = some ⟨g, 0, none⟩ ∧ base ≤ g ∧ g < w.heap.size ∧ w.cell? ⟨g, i * 2, none⟩ = some x ∧ w.cell? ⟨g, i * 2 + 1, none⟩ = some y ∧ w.frozen? ⟨g, i * 2, none⟩ = false ∧ w.frozen? ⟨g, i * 2 + 1, none⟩ = false := by
  obtain ⟨hxl, hform⟩ := h
  rcases hform with ⟨hv, h0, _⟩ | ⟨g', c', cur, hv, hb, hh, h1, h2, h3, h4⟩
  · omega
  injection hv with hv1 hv2 hv3
  subst hv1
  have hsp : ∀ j, j < n * 2 → ∃ v, w.cell? ⟨g', j, none⟩ = some v := fun j hj => by
    have : j < cur.size := by omega
    exact ⟨cur[j], by simp [World.cell?, hh, this]⟩
  obtain ⟨x, hx⟩ := hsp (i * 2) (by omega)
  obtain ⟨y, hy⟩ := hsp (i * 2 + 1) (by omega)
  exact ⟨g', x, y, rfl, hb, (Array.getElem?_eq_some_iff.1 hh).1, hx, hy, by simp [World.frozen?, hh], by simp [World.frozen?, hh]⟩
def setF (path data : ByteArray) (fs : List Fl) : Int × List Fl := if pathB path = true then (0, withF fs (path, data)) else (6, [])
def remF (path : ByteArray) (fs : List Fl) : Int × List Fl := if pathB path = true then (match lookF9 fs path with | some _ => (0, wotF fs path) | none => (8, [])) else (6, [])
set_option maxRecDepth 100000 in
set_option maxHeartbeats 8000000 in
theorem tset_any (A : Option Addr) (np cp B : Nat) (p : List Itm) (d : Dig) (path data : ByteArray) (w : World) (h0 : Sl w B 3 A np (flat itC p)) (hB : B ≤ w.heap.size) (hnc : np ≤ cp) (hcm : cp ≤ maxLen) (hn : np ≤ 700000) (hp : PlOk p) (hs : ∀ i ∈ p, i.2.size ≤ 60000) (hps : path.size ≤ 1000000) (hds : data.size ≤ 60000) :
    Calls Tryz.prog 18 #[.slice A np cp, digV d, .string path, .string data] w (EdtE p d (setF path data) w) := by
  have HP := Lib.hid hp; have H0 := Lib.hid h0; have HS := Lib.hid hs; have HNC := Lib.hid hnc; have HCM := Lib.hid hcm
  obtain ⟨d1, d2⟩ := d
  obtain ⟨W, hW⟩ : ∃ W, (w.alloc (.cells #[.int .u64 d1, .int .u64 d2] 30)).alloc (.cells #[.int .u64 0, .int .u64 0] 30) = W := ⟨_, rfl⟩
  have HB0 : Hid (Below w.heap.size w W) := by rw [← hW]; exact ((Below.refl _ w).alloc (Nat.le_refl _) _).alloc (by simp) _
  have HD : Hid (Bk W (w.heap.size + 1) 30 #[.int .u64 0, .int .u64 0]) := by
    rw [← hW]
    have := Bk.new (w.alloc (.cells #[.int .u64 d1, .int .u64 d2] 30)) 30 #[.int .u64 0, .int .u64 0]
    rw [World.size_alloc] at this; exact this
  have zW : w.heap.size + 2 = W.heap.size := by rw [← hW]; simp
  have HC := Lib.hid (tload_any A np cp B p (d1, d2) W (h0.below HB0.out hB) (Nat.le_trans hB HB0.out.size) (by omega) hp)
  unfold LdEE at HC
  have HW := Lib.hid hW
  simp only [digV] at HC ⊢
  clear hp h0 hs hW hnc hcm
  go_enter Tryz.func18, Tryz.ntmps18
  go_wp2_with fail
  rw [HW.out]
  refine HC.out.mono ?_
  rintro e w2 ⟨hq, hb⟩
  have HB2 : Hid (Below w.heap.size w w2) := HB0.out.trans (hb.mono HB0.out.size)
  have HD2 := Lib.hid (HD.out.below hb (by omega))
  obtain ⟨y0, y1, _, _⟩ := HD2.out.two
  have g0 := HD2.out.free 0; have g1 := HD2.out.free 1
  have z2 : w.heap.size + 2 ≤ w2.heap.size := by have := hb.size; omega
  clear hb HC
  rcases hq with ⟨fs, A1, c1, hld, rfl, hown⟩ | ⟨err, hlod, hnz, rfl⟩
  case inr =>
    have t1 : (err != 0) = true := by rw [bne_iff_ne]; exact hnz
    have HL := Lib.hid hlod; have HNZ := Lib.hid hnz
    clear hlod hnz
    go_wp2_with fail
    refine bodyPost_ret (res_pcp Tryz.results18 rfl rfl (HD2.out.set2 _ _) rfl) rfl ⟨.inl ⟨err, HL.out, HNZ.out, rfl⟩, below_set2 HB2.out (by omega) _ _⟩
  case inl =>
    have HLD := Lib.hid hld; have HOW := Lib.hid hown
    obtain ⟨hok, _⟩ := load_std HP.out HS.out hld
    have HOK := Lib.hid hok
    have hfew := hok.few
    have HPI := Lib.hid (isPath_any path w2 (by unfold maxLen; omega))
    clear hld hown hok
    obtain ⟨pb, hpb⟩ : ∃ pb, pathB path = pb := ⟨_, rfl⟩
    rw [hpb] at HPI
    have HPB := Lib.hid hpb
    clear hpb
    go_wp2_with fail
    refine HPI.out.mono ?_
    rintro e w3 ⟨rfl, hb⟩
    have HB3 : Hid (Below w.heap.size w w3) := HB2.out.trans (hb.mono HB2.out.size)
    have HD3 := Lib.hid (HD2.out.below hb (by omega))
    have HO3 := Lib.hid (ownsRow_upon HOW.out hb)
    have z3 : w.heap.size + 2 ≤ w3.heap.size := by have := hb.size; omega
    have zb3 : W.heap.size ≤ w3.heap.size := by omega
    clear hb HPI y0 y1 g0 g1 HD2 HOW
    obtain ⟨y0, y1, _, _⟩ := HD3.out.two
    have g0 := HD3.out.free 0; have g1 := HD3.out.free 1
    cases pb with
    | false =>
      have HF : Hid (setF path data fs = (6, [])) := by show _ = _; unfold setF; rw [HPB.out]; rfl
      go_wp2_with fail
      refine bodyPost_ret (res_pcp Tryz.results18 rfl rfl (HD3.out.set2 _ _) rfl) rfl ⟨.inr ⟨fs, HLD.out, .inl ⟨by rw [HF.out]; decide, by rw [HF.out]; rfl⟩⟩, below_set2 HB3.out (by omega) _ _⟩
    | true =>
      have HF : Hid (setF path data fs = (0, withF fs (path, data))) := by show _ = _; unfold setF; rw [HPB.out]; rfl
      obtain ⟨W4, hW4⟩ : ∃ W4, w3.alloc (.cells #[.string path, .string data] 68) = W4 := ⟨_, rfl⟩
      have HB4 : Hid (Below w3.heap.size w3 W4) := by rw [← hW4]; exact (Below.refl _ w3).alloc (Nat.le_refl _) _
      have HK4 : Hid (Bk W4 w3.heap.size 68 #[.string path, .string data]) := by rw [← hW4]; exact Bk.new w3 _ _
      have HO4 := Lib.hid (ownsRow_upon HO3.out HB4.out)
      have z4 : w3.heap.size < W4.heap.size := HK4.out.lt
      have HFI := Lib.hid (tfind_any A1 fs.length c1 W4.heap.size fs path W4 (Sl.of_own HO4.out) (Nat.le_refl _) (by omega) HLD.out.asc)
      unfold TfE at HFI
      obtain ⟨m, hm⟩ : ∃ m, atF fs path = m := ⟨_, rfl⟩
      rw [hm] at HFI
      have HM := Lib.hid hm
      have HW4 := Lib.hid hW4
      have HD4 := Lib.hid (HD3.out.below HB4.out (by omega))
      clear hm hW4 y0 y1 g0 g1
      go_wp2_with fail
      rw [HW4.out]
      refine HFI.out.mono ?_
      rintro e w5 ⟨rfl, hb⟩
      have HO5 := Lib.hid (ownsRow_upon HO4.out hb)
      have HK5 := Lib.hid (HK4.out.below hb z4)
      have HD5 := Lib.hid (HD4.out.below hb (by omega))
      have HB5 : Hid (Below w.heap.size w w5) := HB3.out.trans ((HB4.out.trans (hb.mono HB4.out.size)).mono HB3.out.size)
      have z5 : w3.heap.size < w5.heap.size := Nat.lt_of_lt_of_le z4 hb.size
      clear hb HFI HB4 HK4 HO4 HD4 HD3 HO3 HB3
      obtain ⟨k0, k1, _, _⟩ := HK5.out.two
      have hmn : m ≤ fs.length := by rw [← HM.out]; exact atF_le _ _
      have HS : Hid (Sl w5 w5.heap.size 2 A1 fs.length (flat flC fs)) := Sl.of_own HO5.out
      obtain ⟨A1', c1', e1, hc1, hc2⟩ := ownsRow_form HO5.out
      simp only [Value.slice.injEq, true_and] at e1
      obtain ⟨rfl, rfl⟩ := e1
      have z5' : w.heap.size + 2 ≤ w5.heap.size := by omega
      have zb5 : W.heap.size ≤ w5.heap.size := by omega
      have h62 : ∀ f ∈ fs, f.1.size ≤ 1000000 ∧ f.2.size ≤ 60000 := fun f hf => ⟨Nat.le_trans (path_len (HOK.out.path f hf)) (by omega), HOK.out.data f hf⟩
      have H62 : Hid (∀ f ∈ withF fs (path, data), f.1.size ≤ 1000000 ∧ f.2.size ≤ 60000) := fun f hf => by
        rcases mem_withF.1 hf with ⟨h1, _⟩ | rfl
        · exact h62 f h1
        · exact ⟨hps, hds⟩
      clear h62
      cases hlk : lookF9 fs path with
      | some dd =>
        have hml : m < fs.length := by
          rcases Nat.lt_or_ge m fs.length with h | h
          · exact h
          · rw [look_end HLD.out.asc (by rw [HM.out]; exact h)] at hlk; cases hlk
        obtain ⟨g, x, y, rfl, hgb, hgl, hx, hy, hfx, hfy⟩ := own_fl HO5.out rfl hml
        have HR := Lib.hid (Sl.replace (f := (path, data)) HS.out rfl hml)
        have HSW : Hid (fs.take m ++ (path, data) :: fs.drop (m + 1) = withF fs (path, data)) := by
          obtain ⟨g', hg', he'⟩ : ∃ g', fs[atF fs path]? = some g' ∧ g'.1 = path := by
            rw [HM.out, List.getElem?_eq_getElem hml]
            refine ⟨_, rfl, ?_⟩
            have := look_at HLD.out.asc (s := path) (g := fs[m]) (by rw [HM.out, List.getElem?_eq_getElem hml])
            rw [hlk] at this
            split at this
            · assumption
            · cases this
          have := set_with HLD.out.asc (f := (path, data)) hg' he'
          rw [HM.out] at this
          exact this
        clear hlk
        obtain ⟨w6, hw6⟩ : ∃ w6, (w5.setCell ⟨g, m * 2, none⟩ (.string path)).setCell ⟨g, m * 2 + 1, none⟩ (.string data) = w6 := ⟨_, rfl⟩
        have HB6 : Hid (Below w.heap.size w w6) := by rw [← hw6]; exact (HB5.out.setCell (p := ⟨g, m * 2, none⟩) (by show w.heap.size ≤ g; omega) _).setCell (p := ⟨g, m * 2 + 1, none⟩) (by show w.heap.size ≤ g; omega) _
        have z6 : w6.heap.size = w5.heap.size := by rw [← hw6]; simp [World.setCell]
        have HS6 : Hid (Sl w6 w6.heap.size 2 (some ⟨g, 0, none⟩) fs.length (flat flC (withF fs (path, data)))) := by
          show Sl _ _ _ _ _ _
          rw [z6, ← HSW.out, ← hw6]; exact HR.out
        have HD6 : Hid (Bk w6 (w.heap.size + 1) 30 #[.int .u64 0, .int .u64 0]) := by rw [← hw6]; exact (HD5.out.far (p := ⟨g, m * 2, none⟩) (by show w.heap.size + 1 ≠ g; omega) _).far (p := ⟨g, m * 2 + 1, none⟩) (by show w.heap.size + 1 ≠ g; omega) _
        have HW6 := Lib.hid hw6
        have h6n : fs.length ≤ 1000000 := by omega
        clear hw6 HR HSW HO5 HS
        have H0S := Lib.hid (H0.out.below HB6.out hB)
        have HST := Lib.hid (tstore_any A np cp w6.heap.size p (some ⟨g, 0, none⟩) fs.length c1 (withF fs (path, data)) w6 (H0S.out.more (Nat.le_trans hB HB6.out.size)) HS6.out (Nat.le_refl _) HNC.out HCM.out hn h6n HP.out H62.out)
        unfold StrE at HST
        clear H0S
        go_wp2_with fail
        rw [HW6.out]
        refine HST.out.mono ?_
        rintro e w7 ⟨hq, hb⟩
        have HB7 : Hid (Below w.heap.size w w7) := HB6.out.trans (hb.mono HB6.out.size)
        have HD7 := Lib.hid (HD6.out.below hb (by omega))
        obtain ⟨y0, y1, _, _⟩ := HD7.out.two
        have g0 := HD7.out.free 0; have g1 := HD7.out.free 1
        clear hb HST
        rcases hq with ⟨z, hz, hnz, rfl⟩ | ⟨hz, ⟨q, ⟨d1, d2⟩, A3, c3, hs, hr, rfl, hsl, hc3, hm3⟩ | ⟨hs, rfl⟩⟩
        · have HZ := Lib.hid hz; have HN := Lib.hid hnz
          clear hz hnz
          simp only [digV] at *
          go_wp2_with fail
          refine bodyPost_ret (res_pcp Tryz.results18 rfl rfl (HD7.out.set2 _ _) rfl) rfl ⟨.inr ⟨fs, HLD.out, .inr ⟨by rw [HF.out], .inl ⟨z, by rw [HF.out]; exact HZ.out, HN.out, rfl⟩⟩⟩, below_set2 HB7.out (by omega) _ _⟩
        · have HZ := Lib.hid hz; have HN := Lib.hid hs; have HR := Lib.hid hr; have HSL := Lib.hid hsl
          have HNE := Lib.hid (HSL.out.dgbox HD7.out)
          clear hz hs hr hsl
          simp only [digV] at *
          go_wp2_with fail
          refine bodyPost_ret (res_pcp Tryz.results18 rfl rfl (HD7.out.set2 _ _) rfl) rfl ⟨.inr ⟨fs, HLD.out, .inr ⟨by rw [HF.out], .inr ⟨by rw [HF.out]; exact HZ.out, .inl ⟨q, (d1, d2), A3, c3, by rw [HF.out]; exact HN.out, by rw [HF.out]; exact HR.out, rfl, ?_, hc3, hm3⟩⟩⟩⟩, below_set2 HB7.out (by omega) _ _⟩
          have := HSL.out.ne (b := w.heap.size + 1) HNE.out (fun k hk => (Below.heap_setCell (w7.setCell ⟨w.heap.size + 1, 0, none⟩ (.int .u64 d1)) ⟨w.heap.size + 1, 1, none⟩ (.int .u64 d2) k hk).trans (Below.heap_setCell w7 ⟨w.heap.size + 1, 0, none⟩ (.int .u64 d1) k hk))
          simpa using this
        · have HZ := Lib.hid hz; have HN := Lib.hid hs
          clear hz hs
          simp only [digV] at *
          go_wp2_with fail
          refine bodyPost_ret (res_pcp Tryz.results18 rfl rfl (HD7.out.set2 _ _) rfl) rfl ⟨.inr ⟨fs, HLD.out, .inr ⟨by rw [HF.out], .inr ⟨by rw [HF.out]; exact HZ.out, .inr ⟨by rw [HF.out]; exact HN.out, rfl⟩⟩⟩⟩, below_set2 HB7.out (by omega) _ _⟩
      | none =>
        obtain ⟨W6, hW6⟩ : ∃ W6, w5.alloc (.cells #[.string path, .string data] 68) = W6 := ⟨_, rfl⟩
        have hbb : Below w5.heap.size w5 W6 := by rw [← hW6]; exact (Below.refl _ w5).alloc (Nat.le_refl _) _
        have HK6 : Hid (Bk W6 w5.heap.size 68 #[.string path, .string data]) := by rw [← hW6]; exact Bk.new w5 _ _
        have HO6 := Lib.hid (ownsRow_upon HO5.out hbb)
        have z6 : w5.heap.size < W6.heap.size := HK6.out.lt
        have HIL : Hid (insL fs m (path, data) = withF fs (path, data)) := by
          show _ = _
          rw [← HM.out]; exact insL_with (f := (path, data)) HLD.out.asc hlk
        have HI : Hid (Calls Tryz.prog 50 #[.slice A1 fs.length c1, .int .i64 m, .slice (some ⟨w5.heap.size, 0, none⟩) 1 1] W6 (InsFE W.heap.size fs m (path, data) W6)) := by
          rcases Nat.lt_or_ge m fs.length with hml | hml
          · obtain ⟨g, x, y, rfl, hgb, hgl, _⟩ := own_fl HO5.out rfl hml
            rcases Nat.lt_or_ge fs.length c1 with hcl | hcl
            · exact insF_room W.heap.size g fs.length c1 m w5.heap.size fs (path, data) W6 HO6.out rfl hml hcl (by omega) HK6.out (by omega)
            · have e : c1 = fs.length := by omega
              subst e
              exact insF_grow W.heap.size g fs.length m w5.heap.size fs (path, data) W6 (Sl.of_own HO6.out) rfl hml (by omega) HK6.out (by omega)
          · have e : m = fs.length := by omega
            subst e
            exact insF_end W.heap.size fs.length c1 w5.heap.size A1 fs (path, data) W6 HO6.out rfl (by omega) HK6.out (by omega)
        unfold InsFE at HI
        have HBB := Lib.hid hbb
        have HW6 := Lib.hid hW6
        clear hlk hbb hW6 HO5 HS
        go_wp2_with fail
        rw [HW6.out]
        refine HI.out.mono ?_
        rintro e w6 ⟨A2, c2, rfl, hsl, hb, hc2, hm2⟩
        rw [HIL.out] at hsl
        have HS6 := Lib.hid hsl
        have hb1 : Below w.heap.size w W6 := HB5.out.trans (HBB.out.mono HB5.out.size)
        have HB6 : Hid (Below w.heap.size w w6) := hb1.trans (hb.mono HB0.out.size)
        have HD6 := Lib.hid ((HD5.out.below HBB.out (by omega)).below hb (by omega))
        have zz := hb.size
        have h6n : fs.length + 1 ≤ 1000000 := by omega
        clear hsl hb hb1 HBB HI HIL HO6
        have H0S := Lib.hid (H0.out.below HB6.out hB)
        have HST := Lib.hid (tstore_any A np cp w6.heap.size p A2 (fs.length + 1) c2 (withF fs (path, data)) w6 (H0S.out.more (Nat.le_trans hB HB6.out.size)) HS6.out (Nat.le_refl _) HNC.out HCM.out hn h6n HP.out H62.out)
        unfold StrE at HST
        clear H0S
        go_wp2_with fail
        refine HST.out.mono ?_
        rintro e w7 ⟨hq, hb⟩
        have HB7 : Hid (Below w.heap.size w w7) := HB6.out.trans (hb.mono HB6.out.size)
        have HD7 := Lib.hid (HD6.out.below hb (by omega))
        obtain ⟨y0, y1, _, _⟩ := HD7.out.two
        have g0 := HD7.out.free 0; have g1 := HD7.out.free 1
        clear hb HST
        rcases hq with ⟨z, hz, hnz, rfl⟩ | ⟨hz, ⟨q, ⟨d1, d2⟩, A3, c3, hs, hr, rfl, hsl, hc3, hm3⟩ | ⟨hs, rfl⟩⟩
        · have HZ := Lib.hid hz; have HN := Lib.hid hnz
          clear hz hnz
          simp only [digV] at *
          go_wp2_with fail
          refine bodyPost_ret (res_pcp Tryz.results18 rfl rfl (HD7.out.set2 _ _) rfl) rfl ⟨.inr ⟨fs, HLD.out, .inr ⟨by rw [HF.out], .inl ⟨z, by rw [HF.out]; exact HZ.out, HN.out, rfl⟩⟩⟩, below_set2 HB7.out (by omega) _ _⟩
        · have HZ := Lib.hid hz; have HN := Lib.hid hs; have HR := Lib.hid hr; have HSL := Lib.hid hsl
          have HNE := Lib.hid (HSL.out.dgbox HD7.out)
          clear hz hs hr hsl
          simp only [digV] at *
          go_wp2_with fail
          refine bodyPost_ret (res_pcp Tryz.results18 rfl rfl (HD7.out.set2 _ _) rfl) rfl ⟨.inr ⟨fs, HLD.out, .inr ⟨by rw [HF.out], .inr ⟨by rw [HF.out]; exact HZ.out, .inl ⟨q, (d1, d2), A3, c3, by rw [HF.out]; exact HN.out, by rw [HF.out]; exact HR.out, rfl, ?_, hc3, hm3⟩⟩⟩⟩, below_set2 HB7.out (by omega) _ _⟩
          have := HSL.out.ne (b := w.heap.size + 1) HNE.out (fun k hk => (Below.heap_setCell (w7.setCell ⟨w.heap.size + 1, 0, none⟩ (.int .u64 d1)) ⟨w.heap.size + 1, 1, none⟩ (.int .u64 d2) k hk).trans (Below.heap_setCell w7 ⟨w.heap.size + 1, 0, none⟩ (.int .u64 d1) k hk))
          simpa using this
        · have HZ := Lib.hid hz; have HN := Lib.hid hs
          clear hz hs
          simp only [digV] at *
          go_wp2_with fail
          refine bodyPost_ret (res_pcp Tryz.results18 rfl rfl (HD7.out.set2 _ _) rfl) rfl ⟨.inr ⟨fs, HLD.out, .inr ⟨by rw [HF.out], .inr ⟨by rw [HF.out]; exact HZ.out, .inr ⟨by rw [HF.out]; exact HN.out, rfl⟩⟩⟩⟩, below_set2 HB7.out (by omega) _ _⟩
end Go.Proofs.YtmdhlkkekidknaaGreatDoor

namespace Go.Proofs.YtmdhlkkekidknaaGreatDoor
open Go.RowKit Go.Shelf
set_option maxRecDepth 100000 in
set_option maxHeartbeats 8000000 in
theorem trem_any (A : Option Addr) (np cp B : Nat) (p : List Itm) (d : Dig) (path : ByteArray) (w : World) (h0 : Sl w B 3 A np (flat itC p)) (hB : B ≤ w.heap.size) (hnc : np ≤ cp) (hcm : cp ≤ maxLen) (hn : np ≤ 700000) (hp : PlOk p) (hs : ∀ i ∈ p, i.2.size ≤ 60000) (hps : path.size ≤ 1000000) :
    Calls Tryz.prog 27 #[.slice A np cp, digV d, .string path] w (EdtE p d (remF path) w) := by
  have HP := Lib.hid hp; have H0 := Lib.hid h0; have HS := Lib.hid hs; have HNC := Lib.hid hnc; have HCM := Lib.hid hcm
  obtain ⟨d1, d2⟩ := d
  obtain ⟨W, hW⟩ : ∃ W, (w.alloc (.cells #[.int .u64 d1, .int .u64 d2] 30)).alloc (.cells #[.int .u64 0, .int .u64 0] 30) = W := ⟨_, rfl⟩
  have HB0 : Hid (Below w.heap.size w W) := by rw [← hW]; exact ((Below.refl _ w).alloc (Nat.le_refl _) _).alloc (by simp) _
  have HD : Hid (Bk W (w.heap.size + 1) 30 #[.int .u64 0, .int .u64 0]) := by
    rw [← hW]
    have := Bk.new (w.alloc (.cells #[.int .u64 d1, .int .u64 d2] 30)) 30 #[.int .u64 0, .int .u64 0]
    rw [World.size_alloc] at this; exact this
  have zW : w.heap.size + 2 = W.heap.size := by rw [← hW]; simp
  have HC := Lib.hid (tload_any A np cp B p (d1, d2) W (h0.below HB0.out hB) (Nat.le_trans hB HB0.out.size) (by omega) hp)
  unfold LdEE at HC
  have HW := Lib.hid hW
  simp only [digV] at HC ⊢
  clear hp h0 hs hW hnc hcm
  go_enter Tryz.func27, Tryz.ntmps27
  go_wp2_with fail
  rw [HW.out]
  refine HC.out.mono ?_
  rintro e w2 ⟨hq, hb⟩
  have HB2 : Hid (Below w.heap.size w w2) := HB0.out.trans (hb.mono HB0.out.size)
  have HD2 := Lib.hid (HD.out.below hb (by omega))
  obtain ⟨y0, y1, _, _⟩ := HD2.out.two
  have g0 := HD2.out.free 0; have g1 := HD2.out.free 1
  have z2 : w.heap.size + 2 ≤ w2.heap.size := by have := hb.size; omega
  clear hb HC
  rcases hq with ⟨fs, A1, c1, hld, rfl, hown⟩ | ⟨err, hlod, hnz, rfl⟩
  case inr =>
    have t1 : (err != 0) = true := by rw [bne_iff_ne]; exact hnz
    have HL := Lib.hid hlod; have HNZ := Lib.hid hnz
    clear hlod hnz
    go_wp2_with fail
    refine bodyPost_ret (res_pcp Tryz.results27 rfl rfl (HD2.out.set2 _ _) rfl) rfl ⟨.inl ⟨err, HL.out, HNZ.out, rfl⟩, below_set2 HB2.out (by omega) _ _⟩
  case inl =>
    have HLD := Lib.hid hld; have HOW := Lib.hid hown
    obtain ⟨hok, _⟩ := load_std HP.out HS.out hld
    have HOK := Lib.hid hok
    have hfew := hok.few
    have HPI := Lib.hid (isPath_any path w2 (by unfold maxLen; omega))
    clear hld hown hok
    obtain ⟨pb, hpb⟩ : ∃ pb, pathB path = pb := ⟨_, rfl⟩
    rw [hpb] at HPI
    have HPB := Lib.hid hpb
    clear hpb
    go_wp2_with fail
    refine HPI.out.mono ?_
    rintro e w3 ⟨rfl, hb⟩
    have HB3 : Hid (Below w.heap.size w w3) := HB2.out.trans (hb.mono HB2.out.size)
    have HD3 := Lib.hid (HD2.out.below hb (by omega))
    have HO3 := Lib.hid (ownsRow_upon HOW.out hb)
    have z3 : w.heap.size + 2 ≤ w3.heap.size := by have := hb.size; omega
    have zb3 : W.heap.size ≤ w3.heap.size := by omega
    clear hb HPI y0 y1 g0 g1 HD2 HOW
    obtain ⟨y0, y1, _, _⟩ := HD3.out.two
    have g0 := HD3.out.free 0; have g1 := HD3.out.free 1
    cases pb with
    | false =>
      have HF : Hid (remF path fs = (6, [])) := by show _ = _; unfold remF; rw [HPB.out]; rfl
      go_wp2_with fail
      refine bodyPost_ret (res_pcp Tryz.results27 rfl rfl (HD3.out.set2 _ _) rfl) rfl ⟨.inr ⟨fs, HLD.out, .inl ⟨by rw [HF.out]; decide, by rw [HF.out]; rfl⟩⟩, below_set2 HB3.out (by omega) _ _⟩
    | true =>
      have HFI := Lib.hid (tfind_any A1 fs.length c1 w3.heap.size fs path w3 (Sl.of_own HO3.out) (Nat.le_refl _) (by omega) HLD.out.asc)
      unfold TfE at HFI
      obtain ⟨m, hm⟩ : ∃ m, atF fs path = m := ⟨_, rfl⟩
      rw [hm] at HFI
      have HM := Lib.hid hm
      clear hm y0 y1 g0 g1
      go_wp2_with fail
      refine HFI.out.mono ?_
      rintro e w5 ⟨rfl, hb⟩
      have HO5 := Lib.hid (ownsRow_upon HO3.out hb)
      have HD5 := Lib.hid (HD3.out.below hb (by omega))
      have HB5 : Hid (Below w.heap.size w w5) := HB3.out.trans (hb.mono HB3.out.size)
      have z5 : w3.heap.size ≤ w5.heap.size := hb.size
      clear hb HFI HD3 HO3 HB3
      obtain ⟨y0, y1, _, _⟩ := HD5.out.two
      have g0 := HD5.out.free 0; have g1 := HD5.out.free 1
      have hmn : m ≤ fs.length := by rw [← HM.out]; exact atF_le _ _
      obtain ⟨A1', c1', e1, hc1, hc2⟩ := ownsRow_form HO5.out
      simp only [Value.slice.injEq, true_and] at e1
      obtain ⟨rfl, rfl⟩ := e1
      have H62 : Hid (∀ f ∈ wotF fs path, f.1.size ≤ 1000000 ∧ f.2.size ≤ 60000) := fun f hf => by
        have hf := (mem_wotF.1 hf).1
        exact ⟨Nat.le_trans (path_len (HOK.out.path f hf)) (by omega), HOK.out.data f hf⟩
      cases hlk : lookF9 fs path with
      | none =>
        have HF : Hid (remF path fs = (8, [])) := by show _ = _; unfold remF; rw [HPB.out, hlk]; rfl
        clear hlk
        go_wp2_with fail
        refine bodyPost_ret (res_pcp Tryz.results27 rfl rfl (HD5.out.set2 _ _) rfl) rfl ⟨.inr ⟨fs, HLD.out, .inl ⟨by rw [HF.out]; decide, by rw [HF.out]; rfl⟩⟩, below_set2 HB5.out (by omega) _ _⟩
      | some dd =>
        have HF : Hid (remF path fs = (0, wotF fs path)) := by show _ = _; unfold remF; rw [HPB.out, hlk]; rfl
        have hml : m < fs.length := by
          rcases Nat.lt_or_ge m fs.length with h | h
          · exact h
          · rw [look_end HLD.out.asc (by rw [HM.out]; exact h)] at hlk; cases hlk
        obtain ⟨g, x, y, rfl, hgb, hgl, _⟩ := own_fl HO5.out rfl hml
        have HSW : Hid (delL fs m = wotF fs path) := by
          obtain ⟨g', hg', he'⟩ : ∃ g', fs[atF fs path]? = some g' ∧ g'.1 = path := by
            rw [HM.out, List.getElem?_eq_getElem hml]
            refine ⟨_, rfl, ?_⟩
            have := look_at HLD.out.asc (s := path) (g := fs[m]) (by rw [HM.out, List.getElem?_eq_getElem hml])
            rw [hlk] at this
            split at this
            · assumption
            · cases this
          have := del_wot HLD.out.asc hg' he'
          rw [HM.out] at this
          exact this
        have HI := Lib.hid (delF_any W.heap.size g fs.length c1 m fs w5 HO5.out rfl hml (by omega))
        unfold DelFE at HI
        have hw1 : IntKind.i64.wrap ((m : Int) + 1) = (m : Int) + 1 := by rw [IntKind.wrap_i64]; omega
        clear hlk HO5 y0 y1 g0 g1
        go_wp2_with fail
        refine HI.out.mono ?_
        rintro e w6 ⟨A2, c2, rfl, hsl, hb, hc2, hm2⟩
        rw [HSW.out] at hsl
        have HS6 := Lib.hid hsl
        have HB6 : Hid (Below w.heap.size w w6) := HB5.out.trans (hb.mono HB0.out.size)
        have HD6 := Lib.hid (HD5.out.below hb (by omega))
        have zz := hb.size
        have h6n : fs.length - 1 ≤ 1000000 := by omega
        clear hsl hb HI HSW
        have H0S := Lib.hid (H0.out.below HB6.out hB)
        have HST := Lib.hid (tstore_any A np cp w6.heap.size p A2 (fs.length - 1) c2 (wotF fs path) w6 (H0S.out.more (Nat.le_trans hB HB6.out.size)) HS6.out (Nat.le_refl _) HNC.out HCM.out hn h6n HP.out H62.out)
        unfold StrE at HST
        clear H0S
        go_wp2_with fail
        refine HST.out.mono ?_
        rintro e w7 ⟨hq, hb⟩
        have HB7 : Hid (Below w.heap.size w w7) := HB6.out.trans (hb.mono HB6.out.size)
        have HD7 := Lib.hid (HD6.out.below hb (by omega))
        obtain ⟨y0, y1, _, _⟩ := HD7.out.two
        have g0 := HD7.out.free 0; have g1 := HD7.out.free 1
        clear hb HST
        rcases hq with ⟨z, hz, hnz, rfl⟩ | ⟨hz, ⟨q, ⟨d1, d2⟩, A3, c3, hs, hr, rfl, hsl, hc3, hm3⟩ | ⟨hs, rfl⟩⟩
        · have HZ := Lib.hid hz; have HN := Lib.hid hnz
          clear hz hnz
          simp only [digV] at *
          go_wp2_with fail
          refine bodyPost_ret (res_pcp Tryz.results27 rfl rfl (HD7.out.set2 _ _) rfl) rfl ⟨.inr ⟨fs, HLD.out, .inr ⟨by rw [HF.out], .inl ⟨z, by rw [HF.out]; exact HZ.out, HN.out, rfl⟩⟩⟩, below_set2 HB7.out (by omega) _ _⟩
        · have HZ := Lib.hid hz; have HN := Lib.hid hs; have HR := Lib.hid hr; have HSL := Lib.hid hsl
          have HNE := Lib.hid (HSL.out.dgbox HD7.out)
          clear hz hs hr hsl
          simp only [digV] at *
          go_wp2_with fail
          refine bodyPost_ret (res_pcp Tryz.results27 rfl rfl (HD7.out.set2 _ _) rfl) rfl ⟨.inr ⟨fs, HLD.out, .inr ⟨by rw [HF.out], .inr ⟨by rw [HF.out]; exact HZ.out, .inl ⟨q, (d1, d2), A3, c3, by rw [HF.out]; exact HN.out, by rw [HF.out]; exact HR.out, rfl, ?_, hc3, hm3⟩⟩⟩⟩, below_set2 HB7.out (by omega) _ _⟩
          have := HSL.out.ne (b := w.heap.size + 1) HNE.out (fun k hk => (Below.heap_setCell (w7.setCell ⟨w.heap.size + 1, 0, none⟩ (.int .u64 d1)) ⟨w.heap.size + 1, 1, none⟩ (.int .u64 d2) k hk).trans (Below.heap_setCell w7 ⟨w.heap.size + 1, 0, none⟩ (.int .u64 d1) k hk))
          simpa using this
        · have HZ := Lib.hid hz; have HN := Lib.hid hs
          clear hz hs
          simp only [digV] at *
          go_wp2_with fail
          refine bodyPost_ret (res_pcp Tryz.results27 rfl rfl (HD7.out.set2 _ _) rfl) rfl ⟨.inr ⟨fs, HLD.out, .inr ⟨by rw [HF.out], .inr ⟨by rw [HF.out]; exact HZ.out, .inr ⟨by rw [HF.out]; exact HN.out, rfl⟩⟩⟩⟩, below_set2 HB7.out (by omega) _ _⟩
end Go.Proofs.YtmdhlkkekidknaaGreatDoor

namespace Go.Proofs.YtmdhlkkekidknaaGreatDoor
open Go.RowKit

theorem split_deep {s : ByteArray} (h : deN s = true) : splitS (bl s) = bl (fsN s) :: splitS (bl (rsN s)) := by
  rw [cut_deep h]; exact splitS_seg _ _ (fsN_nosl s)
theorem getF_more {p : List Itm} : ∀ (m : Nat) (d : Dig) (s : ByteArray), (splitS (bl s)).length ≤ m → getF p m d s = getF p (splitS (bl s)).length d s
  | 0, d, s, h => absurd h (by have := List.length_pos_iff.2 (splitS_ne (bl s)); omega)
  | m + 1, d, s, h => by
    obtain ⟨n, hn⟩ : ∃ n, (splitS (bl s)).length = n + 1 := ⟨(splitS (bl s)).length - 1, by have := List.length_pos_iff.2 (splitS_ne (bl s)); omega⟩
    rw [hn]
    cases hd : deN s with
    | false => rw [getF, getF]; simp only [hd, Bool.false_eq_true, if_false]
    | true =>
      have hs := split_deep hd
      have hl : (splitS (bl (rsN s))).length = n := by rw [hs, List.length_cons] at hn; omega
      have ih := fun d => getF_more (p := p) m d (rsN s) (by omega)
      rw [hl] at ih
      rw [getF, getF]; simp only [hd, if_true, ih]
theorem std_gtR {q : List Itm} (hq : PlOk q) {k : Nat} {d : Dig} {l : List Fl} (hl : OkL l) (hs : Std q k d l) {s : ByteArray} (hp : pathB s = true) :
    (∀ b, (s, b) ∈ l → gtR q d s = (b, 0)) ∧ ((∀ f ∈ l, f.1 ≠ s) → (gtR q d s).2 ≠ 0 ∧ ((∀ f ∈ l, belB f.1 s = false ∧ belB s f.1 = false) → (gtR q d s).2 = 8)) := by
  have h1 := splitS_size (bl s)
  have h2 : (bl s).length = s.size := by simp [bl]
  have h := std_get hq k d l hl hs (s.size + 1) s hp (by omega)
  rw [getF_more (s.size + 1) d s (by omega)] at h
  unfold gtR
  rw [if_pos hp]
  exact h
theorem ascAw : AscF awL := by unfold AscF; decide +kernel
theorem okAw : OkL awL where
  path := by decide +kernel
  data := by decide +kernel
  few := by decide
  nod := asc_nodup ascAw
  nob := by decide +kernel
theorem ckAw : TckR awL 0 := ck_back okAw ascAw
def dR : Dig := ofB bR
theorem plAw : PlOk q4 := (sto_std 101 [] awL q4 dR okAw PlOk.nil sto_aw).2.1
theorem stdAw : Std q4 101 dR awL := (sto_std 101 [] awL q4 dR okAw PlOk.nil sto_aw).1
theorem ldAw : LdSeq q4 dR awL := std_load plAw okAw stdAw ascAw
theorem ld_uniq {p : List Itm} {d : Dig} {a b : List Fl} (ha : LdSeq p d a) (hb : LdSeq p d b) : a = b :=
  AscF.ext ha.asc hb.asc (fun _ => (ha.perm.mem_iff).trans (hb.perm.mem_iff).symm)
theorem ld_not {p : List Itm} {d : Dig} {a : List Fl} {err : Int} (ha : LdSeq p d a) (h : LodE p d err) : False := by
  rcases h with ⟨h, _⟩ | ⟨_, h, _⟩
  · have := ha.few; omega
  · exact h ha.ok
theorem aw_store {w w' : World} {e : Ending} (h : StrE [] awL w e w') : ∃ A c, e = .returned (.tuple #[.slice A 4 c, digV dR, .int .i64 0]) ∧ Sl w' w'.heap.size 3 A 4 (flat itC q4) ∧ 4 ≤ c ∧ c ≤ maxLen ∧ Below w.heap.size w w' := by
  obtain ⟨h, hb⟩ := h
  rcases h with ⟨z, hz, hn, _⟩ | ⟨_, ⟨q, d, A, c, h1, _, rfl, h3, h4, h5⟩ | ⟨h1, _⟩⟩
  · exact absurd (TckR.same hz ckAw) hn
  · rw [sto_aw] at h1
    injection h1 with h1
    injection h1 with h1 h2
    subst h1; subst h2
    rw [q4_len] at h3 h4
    exact ⟨A, c, by rw [q4_len]; rfl, h3, h4, h5, hb⟩
  · rw [sto_aw] at h1; cases h1
theorem aw_load {w w' : World} {e : Ending} (h : LdEE q4 dR w e w') : ∃ A c, e = .returned (.tuple #[.slice A 2 c, .int .i64 0]) ∧ Sl w' w'.heap.size 2 A 2 (flat flC awL) ∧ Below w.heap.size w w' := by
  obtain ⟨h, hb⟩ := h
  rcases h with ⟨fs, A, c, h1, rfl, h3⟩ | ⟨err, h1, _⟩
  · have := ld_uniq h1 ldAw
    subst this
    exact ⟨A, c, rfl, Sl.of_own h3, hb⟩
  · exact (ld_not ldAw h1).elim
theorem aw_set {w w' : World} {e : Ending} (h : EdtE q4 dR (setF sA s3) w e w') : e = .returned (.tuple #[.slice none 0 0, digV zD, .int .i64 7]) ∧ Below w.heap.size w w' := by
  obtain ⟨h, hb⟩ := h
  refine ⟨?_, hb⟩
  have hpa : pathB sA = true := by decide +kernel
  have hset : setF sA s3 awL = (0, withF awL (sA, s3)) := by unfold setF; rw [if_pos hpa]
  have hdat : ∀ f ∈ withF awL (sA, s3), f.2.size ≤ 60000 := fun f hf => by
    rcases mem_withF.1 hf with ⟨h1, _⟩ | rfl
    · exact okAw.data f h1
    · decide
  have hno : ¬ TckR (withF awL (sA, s3)) 0 := fun h0 => by
    have := (ck_ok h0 hdat).1.nob (sA, s3) (mem_withF.2 (.inr rfl)) (sAX, s1) (mem_withF.2 (.inl ⟨by unfold awL; simp, by decide +kernel⟩))
    have h2 : belB sA sAX = true := by decide +kernel
    rw [h2] at this; cases this
  rcases h with ⟨err, h1, _⟩ | ⟨fs, h1, h2⟩
  · exact (ld_not ldAw h1).elim
  · have := ld_uniq h1 ldAw
    subst this
    rw [hset] at h2
    rcases h2 with ⟨h3, _⟩ | ⟨_, ⟨z, h4, h5, rfl⟩ | ⟨h4, _⟩⟩
    · exact absurd rfl h3
    · rcases ck_with okAw ascAw (by decide) hpa h4 with h6 | h6
      · exact absurd h6 h5
      · rw [h6]
    · exact absurd h4 hno
theorem aw_getX : gtR q4 dR sAX = (s1, 0) := (std_gtR plAw okAw stdAw (by decide +kernel)).1 s1 (by unfold awL; simp)
theorem aw_getA : (gtR q4 dR sA).2 = 9 := by
  obtain ⟨es, h1, h2, h3⟩ := stdAw
  have hes : OkEs es := okO_tree (o := treeO es) (getP_ok plAw h1) rfl
  have hm : sA ∈ es.map Ent.nm := by rw [h2, nm1]; simp
  obtain ⟨e, he, hen⟩ := List.mem_map.1 hm
  have hent : entN (treeO es).ents (fsN sA) = some e := by
    have : fsN sA = sA := by decide +kernel
    rw [this, ← hen]; exact entN_mem hes he
  have hd : e.dir ≠ deN sA := by
    have h4 : deN sA = false := by decide +kernel
    rw [h4]
    rcases h3 e he with ⟨a, b, c, f⟩ | ⟨a, _⟩
    · rw [hen] at c
      have := (look9_some okAw.nod).2 c
      have h5 : lookF9 awL sA = none := by decide +kernel
      rw [h5] at this; cases this
    · rw [a]; simp
  unfold gtR
  rw [if_pos (by decide +kernel)]
  have hl : (splitS (bl sA)).length = 0 + 1 := by decide +kernel
  rw [hl, getF_dir h1 rfl hent hd]
end Go.Proofs.YtmdhlkkekidknaaGreatDoor

namespace Go.Proofs.YtmdhlkkekidknaaGreatDoor
open Go.RowKit Go.Maps Go.Sort Go.Shelf
attribute [local go_sem] Oper.semAt_some

theorem collG_any (gf : Nat) (lb : Array Value) (eg : ∀ args w, (callFunc gf args).run Tryz.prog w = .ok (.enter gf args) w) (S Sp : List (List UInt8) → Prop) (N : Nat) (w : World) (hn : N ≤ 1000000) (hseq : SeqStops Fence.wide 5 Tryz.prog gf lb encStr S Sp N w) :
    Calls Tryz.prog 88 #[.func (.func gf) #[] lb] w fun e w' =>
      ∃ A c ss, e = .returned (.slice A ss.length c) ∧ S ss ∧ w'.ownsRow w.heap.size 9 1 (.slice A ss.length c) ss.length (strs (ss.map ub)) ∧ Below w.heap.size w w' := by
  have HA := Lib.hid (appSeq_any gf lb eg S Sp N none 0 0 [] w w (World.ownsRow_nil _ _ _ _) (Below.refl _ _) (by omega) hseq)
  clear hseq
  go_enter Tryz.func88, Tryz.ntmps88
  go_wp2_with (go_at_call 90; refine HA.out.mono ?_; rintro e w1 ⟨A, c, ss, rfl, h⟩; rw [Nat.zero_add, List.nil_append] at h; have HH := Lib.hid h; clear h)
  go_ret
  exact ⟨A, c, ss, rfl, HH.out⟩
theorem sortedG_any (gf : Nat) (lb : Array Value) (eg : ∀ args w, (callFunc gf args).run Tryz.prog w = .ok (.enter gf args) w) (S Sp : List (List UInt8) → Prop) (N : Nat) (w : World) (hn : N ≤ 1000) (hS : ∀ ss, S ss → ss.length ≤ N) (hseq : SeqStops Fence.wide 5 Tryz.prog gf lb encStr S Sp N w) :
    Calls Tryz.prog 77 #[.func (.func gf) #[] lb] w fun e w' =>
      ∃ A c ss, e = .returned (.slice A ss.length c) ∧ S ss ∧ w'.ownsRow w.heap.size 9 1 (.slice A ss.length c) ss.length (strs (srtB (ss.map ub))) ∧ Below w.heap.size w w' := by
  have HA := Lib.hid (collG_any gf lb eg S Sp N w (by omega) hseq)
  clear hseq
  go_enter Tryz.func77, Tryz.ntmps77
  go_wp2_with fail
  refine HA.out.mono ?_
  rintro e w1 ⟨A, c, ss, rfl, hs, hrow, hb⟩
  have HSS := Lib.hid hs; have HB := Lib.hid hb; have HROW := Lib.hid hrow
  have hl := hS ss hs
  have HS := Lib.hid (sort_any w.heap.size ss.length c A (ss.map ub) w1 hrow (by omega))
  clear hs hb hrow HA
  go_wp2_with fail
  refine HS.out.mono ?_
  rintro e w2 ⟨rfl, h1, h2⟩
  have HB2 : Hid (Below w.heap.size w w2) := HB.out.grown h2 HB.out.size (fun k hk => ownBlock_ge HROW.out k hk)
  have H1 := Lib.hid h1
  clear h1 h2 HS
  go_wp2_with fail
  go_ret
  exact ⟨A, c, ss, rfl, HSS.out, H1.out, HB2.out⟩
def SkE (g : ByteArray → Option Value) (N : Nat) (w : World) (e : Ending) (w' : World) : Prop :=
  ∃ A c ks, e = .returned (.slice A ks.length c) ∧ Asc ks ∧ (∀ x, x ∈ ks ↔ (g x).isSome = true) ∧ ks.length ≤ N ∧ w'.ownsRow w.heap.size 9 1 (.slice A ks.length c) ks.length (strs ks) ∧ Below w.heap.size w w'
theorem sortedK_of {gf : Nat} {lb : Array Value} {g : ByteArray → Option Value} {N : Nat} {w : World} (eg : ∀ args w, (callFunc gf args).run Tryz.prog w = .ok (.enter gf args) w) (hn : N ≤ 1000)
    (h : ∃ S Sp, SeqStops Fence.wide 5 Tryz.prog gf lb encStr S Sp N w ∧ ∀ ss, S ss → KeysR g N (ss.map ub)) : Calls Tryz.prog 77 #[.func (.func gf) #[] lb] w (SkE g N w) := by
  obtain ⟨S, Sp, h1, h2⟩ := h
  refine (sortedG_any gf lb eg S Sp N w hn (fun ss hs => by have := (h2 ss hs).few; rwa [List.length_map] at this) h1).mono ?_
  rintro e w' ⟨A, c, ss, rfl, hs, hr, hb⟩
  have hk := h2 ss hs
  have hl : (srtB (ss.map ub)).length = ss.length := by rw [srtB_len, List.length_map]
  exact ⟨A, c, srtB (ss.map ub), by rw [hl], srtB_asc hk.nod, fun x => by rw [srtB_mem]; exact hk.mem x, by rw [hl]; have := hk.few; rwa [List.length_map] at this, by rw [hl]; exact hr, hb⟩

theorem keysC_any (b : Nat) (w : World) : Calls Tryz.prog 78 #[.map (some b)] w fun e w' => e = .returned (.func (.func 119) #[] #[.pointer (some ⟨w.heap.size, 0, none⟩)]) ∧ w' = w.alloc (.cells #[.map (some b)] 110) := by
  go_enter Tryz.func78, Tryz.ntmps78
  go_wp2_with fail
  go_ret
  exact ⟨rfl, rfl⟩
theorem sortedC_any (Bm b N : Nat) (g : ByteArray → Option Value) (w : World) (hM : Rm w Tryz.prog 9 b N g) (hc : w.cell? ⟨Bm, 0, none⟩ = some (.map (some b))) (hB : Bm < w.heap.size) (hn : N ≤ 1000) :
    Calls Tryz.prog 77 #[.func (.func 119) #[] #[.pointer (some ⟨Bm, 0, none⟩)]] w (SkE g N w) :=
  sortedK_of (enters_of Tryz.func119 (by kernel_rfl) rfl) hn (by
    obtain ⟨D, h1, h2, h3⟩ := hM.keys Tryz.underlying9
    exact ⟨_, _, fun l J Jx W hW hJ hJx hY h0 => AnyZ.keys_stops (ρ := Tryz.keysC_ren) { Tryz.keysC with } Fence.wide 5 trivial rfl (by omega) Bm b N D w hB hc h1 l J Jx W hW hJ hJx (fun pre x W1 hj hl => hY pre x W1 hj (Nat.lt_of_lt_of_le hl h2)) h0, h3⟩)

theorem keysS_any (b : Nat) (w : World) : Calls Tryz.prog 81 #[.map (some b)] w fun e w' => e = .returned (.func (.func 120) #[] #[.pointer (some ⟨w.heap.size, 0, none⟩)]) ∧ w' = w.alloc (.cells #[.map (some b)] 118) := by
  go_enter Tryz.func81, Tryz.ntmps81
  go_wp2_with fail
  go_ret
  exact ⟨rfl, rfl⟩
theorem sortedS_any (Bm b N : Nat) (g : ByteArray → Option Value) (w : World) (hM : Rm w Tryz.prog 9 b N g) (hc : w.cell? ⟨Bm, 0, none⟩ = some (.map (some b))) (hB : Bm < w.heap.size) (hn : N ≤ 1000) :
    Calls Tryz.prog 77 #[.func (.func 120) #[] #[.pointer (some ⟨Bm, 0, none⟩)]] w (SkE g N w) :=
  sortedK_of (enters_of Tryz.func120 (by kernel_rfl) rfl) hn (by
    obtain ⟨D, h1, h2, h3⟩ := hM.keys Tryz.underlying9
    exact ⟨_, _, fun l J Jx W hW hJ hJx hY h0 => AnyZ.keys_stops (ρ := Tryz.keysS_ren) { Tryz.keysS with } Fence.wide 5 trivial rfl (by omega) Bm b N D w hB hc h1 l J Jx W hW hJ hJx (fun pre x W1 hj hl => hY pre x W1 hj (Nat.lt_of_lt_of_le hl h2)) h0, h3⟩)
end Go.Proofs.YtmdhlkkekidknaaGreatDoor

namespace Go.Proofs.YtmdhlkkekidknaaGreatDoor
open Go.RowKit

theorem sl_on {w w' : World} {n size : Nat} {A : Option Addr} {xs : List Value} (h : Sl w w.heap.size size A n xs) (hb : Below w.heap.size w w') : Sl w' w'.heap.size size A n xs := (h.below hb (Nat.le_refl _)).more hb.size
def fcV (x : FCh) : Value := .agg #[.string x.path, .bool x.ho, .bool x.hn, .string x.old, .string x.new]
def fc0 : FCh := ⟨eB, false, false, eB, eB⟩
def gD (a b : List Fl) (s : ByteArray) : Option Value := if (lookF9 a s).isSome || (lookF9 b s).isSome then some (fcV (chg a b s)) else none
theorem gD_nil : gD [] [] = fun _ => none := by funext s; simp [gD, lookF9]
theorem gD_some (a b : List Fl) (s : ByteArray) : (gD a b s).isSome = true ↔ ((lookF9 a s).isSome = true ∨ (lookF9 b s).isSome = true) := by
  unfold gD
  by_cases h : ((lookF9 a s).isSome || (lookF9 b s).isSome) = true
  · rw [if_pos h]; simpa using h
  · rw [if_neg h]; simpa using h
theorem gD_get {a b : List Fl} {s : ByteArray} (h : (lookF9 a s).isSome = true ∨ (lookF9 b s).isSome = true) (z : Value) : (gD a b s).getD z = fcV (chg a b s) := by
  unfold gD
  rw [if_pos (by simpa using h)]; rfl
theorem gD_old {a : List Fl} {f : Fl} (hn : f.1 ∉ a.map Prod.fst) : gD (a ++ [f]) [] = upd (gD a []) f.1 (fcV ⟨f.1, true, false, f.2, eB⟩) := by
  funext s
  unfold upd gD chg
  rw [look9_snoc hn]
  by_cases h : s = f.1
  · subst h; simp [lookF9]
  · have h' : ¬ f.1 = s := fun e => h e.symm
    simp only [if_neg h, if_neg h']
theorem look_not {b : List Fl} {s : ByteArray} (hn : s ∉ b.map Prod.fst) : lookF9 b s = none := look9_none.2 fun g hg e => hn (by rw [← e]; exact List.mem_map_of_mem hg)
theorem gD_new {a b : List Fl} {f : Fl} (hn : f.1 ∉ b.map Prod.fst) : gD a (b ++ [f]) = upd (gD a b) f.1 (fcV ⟨f.1, (lookF9 a f.1).isSome, true, (lookF9 a f.1).getD eB, f.2⟩) := by
  funext s
  unfold upd gD chg
  rw [look9_snoc hn]
  by_cases h : s = f.1
  · subst h; simp
  · have h' : ¬ f.1 = s := fun e => h e.symm
    simp only [if_neg h, if_neg h']
theorem gD_look {a b : List Fl} {f : Fl} (hn : f.1 ∉ b.map Prod.fst) : ∃ q, (gD a b f.1).getD (fcV fc0) = fcV ⟨q, (lookF9 a f.1).isSome, false, (lookF9 a f.1).getD eB, eB⟩ := by
  unfold gD chg
  rw [look_not hn]
  cases h : lookF9 a f.1 with
  | none => exact ⟨eB, rfl⟩
  | some d => exact ⟨f.1, rfl⟩
def chL (a b : List Fl) (ks : List ByteArray) : List FCh := (ks.map (chg a b)).filter (fun x => decide (isCh x))
theorem chL_snoc (a b : List Fl) (ks : List ByteArray) (k : ByteArray) : chL a b (ks ++ [k]) = if isCh (chg a b k) then chL a b ks ++ [chg a b k] else chL a b ks := by
  unfold chL
  rw [List.map_append, List.filter_append]
  by_cases h : isCh (chg a b k)
  · rw [if_pos h]; simp [h]
  · rw [if_neg h]; simp [h]
theorem chL_len (a b : List Fl) (ks : List ByteArray) : (chL a b ks).length ≤ ks.length := by
  unfold chL
  exact Nat.le_trans (List.length_filter_le _ _) (by simp)
theorem infoFC : (Tryz.prog.info? 112).map (fun i => (i.zero, i.size, i.bytes)) = some (some (.agg #[.string ⟨#[]⟩, .bool false, .bool false, .string ⟨#[]⟩, .string ⟨#[]⟩]), 5, 56) := by kernel_rfl
def DfE (p : List Itm) (d1 d2 : Dig) (w : World) (e : Ending) (w' : World) : Prop :=
  ((∃ err, LodE p d1 err ∧ err ≠ 0 ∧ e = .returned (.tuple #[.slice none 0 0, .int .i64 err])) ∨
   (∃ a, LdSeq p d1 a ∧ ((∃ err, LodE p d2 err ∧ err ≠ 0 ∧ e = .returned (.tuple #[.slice none 0 0, .int .i64 err])) ∨
     (∃ b c A cap, LdSeq p d2 b ∧ DifR a b c ∧ e = .returned (.tuple #[.slice A c.length cap, .int .i64 0]) ∧ Sl w' w'.heap.size 5 A c.length (flat fcC c) ∧ c.length ≤ cap ∧ cap ≤ maxLen ∧ c.length ≤ 400))))
  ∧ Below w.heap.size w w'
end Go.Proofs.YtmdhlkkekidknaaGreatDoor
