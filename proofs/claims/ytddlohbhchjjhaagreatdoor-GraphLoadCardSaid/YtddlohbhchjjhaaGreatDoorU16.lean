/-
  Lemmas: The reference's Load. GraphLoad.
-/
import Derived.Deep.QuietTactic
import Derived.BigQuiet
import Derived.Test.YtddlohbhchjjhaaGreatDoorU15

namespace Go.Proofs.YtddlohbhchjjhaaGreatDoor
open Go.RowKit Go.Shelf Go.Maps

theorem tchk_path : ∀ {p : Option ByteArray} {fs : List Fl}, tchk p fs = 0 → ∀ f ∈ fs, pathB f.1 = true
  | _, [], _, f, hf => by cases hf
  | p, g :: r, h, f, hf => by
    simp only [tchk] at h
    split at h
    · rename_i h1
      split at h
      · rcases List.mem_cons.1 hf with rfl | hf
        · exact h1
        · exact tchk_path h f hf
      · cases h
    · cases h
theorem root_path : pathB rootW = false := by decide +kernel
theorem TckR.root {fs : List Fl} (h : TckR fs 0) : ∀ f ∈ fs, f.1 ≠ rootW := fun f hf e => by
  have h0 : tchk none fs = 0 := by
    rcases h with ⟨_, h⟩ | ⟨_, h1, h2⟩ | ⟨_, h, _⟩
    · cases h
    · exact absurd h2.symm h1
    · exact h
  have := tchk_path h0 f hf
  rw [e, root_path] at this
  cases this
theorem Sl.far_box {w : World} {B m b : Nat} {A : Option Addr} {rs : List Tg} {x : Value} (h : Sl w B 4 A m (flat tgC rs)) (hk : Bk w b 27 #[x]) (u : Value) : Sl (w.setCell ⟨b, 0, none⟩ u) B 4 A m (flat tgC rs) := by
  refine ⟨h.1, fun hn => ?_⟩
  obtain ⟨b', off, e, hb, hc⟩ := h.2 hn
  have hne : b' ≠ b := by
    rintro rfl
    have hl := h.len tgC_len (by omega)
    cases rs with
    | nil => simp at hl; omega
    | cons t rs =>
      have h3 := hc 3 (.slice t.vA t.vn t.vc) rfl
      have h4 := hk.cell (off + 3)
      rw [h3] at h4
      simp at h4
  exact ⟨b', off, e, hb, fun j v hv => (World.cell?_setCell_other _ _ _ _ fun e => hne (by have h := congrArg Addr.block e; first | exact h | exact h.symm)).trans (hc j v hv)⟩
theorem Sl.far_str {w : World} {B m b : Nat} {A A1 : Option Addr} {n1 c1 : Nat} {l : List ByteArray} (h : Sl w B 1 A m (strs l)) (hk : Bk w b 27 #[.slice A1 n1 c1]) (u : Value) : Sl (w.setCell ⟨b, 0, none⟩ u) B 1 A m (strs l) := by
  refine ⟨h.1, fun hn => ?_⟩
  obtain ⟨b', off, e, hb, hc⟩ := h.2 hn
  refine ⟨b', off, e, hb, fun j v hv => (World.cell?_setCell_other _ _ _ _ fun e => ?_).trans (hc j v hv)⟩
  have h1 := hc j v hv
  rw [← e, hk.cell 0] at h1
  simp at h1
  obtain ⟨s, _, hs⟩ := List.mem_map.1 (List.mem_of_getElem? hv)
  rw [← h1] at hs
  cases hs
theorem TgOk.far {w : World} {B b : Nat} {t : Tg} {A1 : Option Addr} {n1 c1 : Nat} (h : TgOk w B t) (hk : Bk w b 27 #[.slice A1 n1 c1]) (u : Value) : TgOk (w.setCell ⟨b, 0, none⟩ u) B t :=
  ⟨h.d.far_str hk u, h.dle, h.dmax, h.v.far_str hk u, h.vle, h.vmax, h.ls, h.ds, h.vs⟩
theorem TgsR.load {fs : List Fl} {us : List Ct} {wh : ByteArray} {err : Int} (h0 : TckR fs 0) (h : TgsR fs us wh err) (he : err ≠ 0) : LdR fs [] wh err := by
  rcases h with ⟨p, e, h1, h2, h3, h4⟩ | ⟨ds, h1, ⟨h2, h3, h4, h5⟩ | ⟨_, _, _, _, h⟩⟩
  · exact ⟨0, h0, .inr ⟨rfl, .inl ⟨p, e, h1, rfl, h3, h4⟩⟩⟩
  · exact ⟨0, h0, .inr ⟨rfl, .inr ⟨ds, h1, .inl ⟨h2, rfl, h4, h5⟩⟩⟩⟩
  · exact absurd h he
theorem TgsR.zero {fs : List Fl} {us : List Ct} {wh : ByteArray} (h : TgsR fs us wh 0) : ∃ ds, Gat fs (.inl ds) ∧ ds.length ≤ 100 ∧ us.Perm ds ∧ SrtC us := by
  rcases h with ⟨p, e, h1, h2, h3, h4⟩ | ⟨ds, h1, ⟨_, _, _, h5⟩ | ⟨h2, h3, h4, _⟩⟩
  · exact absurd h4.symm (h1.bad_ne p e rfl)
  · cases h5
  · exact ⟨ds, h1, h2, h3, h4⟩
set_option maxRecDepth 100000 in
set_option maxHeartbeats 8000000 in
theorem rload_any (A : Option Addr) (n c B : Nat) (fs : List Fl) (w : World) (h0 : Sl w B 2 A n (flat flC fs)) (hB : B ≤ w.heap.size) (hn : n ≤ 1000) (hsz : ∀ f ∈ fs, f.1.size ≤ 500 ∧ f.2.size ≤ 60000) :
    Calls Tryz.prog 14 #[.slice A n c] w (LdEnd fs w) := by
  have H0 := Lib.hid h0; have HSZ := Lib.hid hsz
  clear h0 hsz
  obtain ⟨W0, hW0⟩ : ∃ W0, w.alloc (.cells #[.slice none 0 0] 27) = W0 := ⟨_, rfl⟩
  have HB0 : Hid (Below w.heap.size w W0) := by rw [← hW0]; exact (Below.refl _ w).alloc (Nat.le_refl _) _
  have HK0 : Hid (Bk W0 w.heap.size 27 #[.slice none 0 0]) := by rw [← hW0]; exact Bk.new w _ _
  have zW0 : W0.heap.size = w.heap.size + 1 := by rw [← hW0]; simp
  have HTC := Lib.hid (check9_any A n c B fs W0 (H0.out.below HB0.out hB) (by omega) (by omega) (fun f hf => ⟨by have := (HSZ.out f hf).1; omega, (HSZ.out f hf).2⟩))
  go_enter Tryz.func14, Tryz.ntmps14
  go_wp2_with fail
  refine HTC.out.mono ?_
  rintro e w1 ⟨err, rfl, htc, hb1⟩
  have HT := Lib.hid htc
  have HK1 := Lib.hid (HK0.out.below hb1 (by omega))
  have HB1 : Hid (Below w.heap.size w w1) := HB0.out.trans (hb1.mono (by omega))
  have zw1 : w.heap.size < w1.heap.size := HK1.out.lt
  clear htc hb1 HTC hW0
  by_cases he : err = 0
  rotate_left
  · have he' : (err != 0) = true := by simpa using he
    have HE : Hid (LdR fs [] ⟨#[]⟩ err) := ⟨err, HT.out, .inl ⟨he, rfl, rfl, rfl⟩⟩
    have f0 := HK1.out.free 0
    have r0 := HK1.out.cell 0
    simp at r0
    clear he
    go_wp2_with fail
    exact bodyPost_ret (res_cellG Tryz.results14 rfl (HK1.out.set1 _) rfl rfl) rfl (LdEnd.none_ HE.out (HB1.out.setCell (Nat.le_refl _) _))
  subst he
  have HTG := Lib.hid (rtargets_any A n c B fs w1 (H0.out.below HB1.out hB) (by omega) hn (fun f hf => ⟨(HSZ.out f hf).1, (HSZ.out f hf).2, HT.out.root f hf⟩))
  go_wp2_with (go_at_call 55; refine HTG.out.mono ?_; rintro e w2 ⟨A2, m, c2, rs, wh, e2, rfl, hs2, hx2, hmc, hcm, htr, hb2⟩; refine halt_ ?_)
  refine unhalt ?_
  have HS2 := Lib.hid hs2; have HX2 := Lib.hid hx2; have HTR := Lib.hid htr
  have HK2 := Lib.hid (HK1.out.below hb2 zw1)
  have HB2 : Hid (Below w.heap.size w w2) := HB1.out.trans (hb2.mono (by omega))
  have zw2 : w.heap.size < w2.heap.size := HK2.out.lt
  have hrl := Lib.hid (hs2.len tgC_len (by omega))
  clear hs2 hx2 htr hb2 HTG
  by_cases he : e2 = 0
  rotate_left
  · have he' : (e2 != 0) = true := by simpa using he
    have HE := Lib.hid (HTR.out.load HT.out he)
    have f0 := HK2.out.free 0
    have r0 := HK2.out.cell 0
    simp at r0
    clear he
    go_wp2_with fail
    exact bodyPost_ret (res_cellG Tryz.results14 rfl (HK2.out.set1 _) rfl rfl) rfl (LdEnd.none_ HE.out (HB2.out.setCell (Nat.le_refl _) _))
  subst he
  obtain ⟨ds, hgt, hdl, hpm, hst⟩ := HTR.out.zero
  have hml : m ≤ 100 := by
    have h1 := hpm.length_eq
    rw [List.length_map, hrl.out] at h1
    omega
  have HGO : Hid (GatOk fs ds) := hgt.ok HT.out.asc.nodup _ rfl
  have HLS : Hid (∀ t ∈ rs, t.lab.size ≤ 600) := fun t ht => HGO.out.size (fun f hf => (HSZ.out f hf).1) (ct t) (hpm.mem_iff.1 (List.mem_map_of_mem ht))
  have HKD : Hid (∀ t ∈ rs, t.kind = 1 ∨ t.kind = 2) := fun t ht => HGO.out.kind (ct t) (hpm.mem_iff.1 (List.mem_map_of_mem ht))
  have HLD : Hid (∀ vs wh err, LdT (fs.map Prod.fst) (rs.map ct) vs wh err → LdR fs vs wh err) := fun vs wh err h => ⟨0, HT.out, .inr ⟨rfl, .inr ⟨_, hgt, .inr ⟨hdl, rs.map ct, hpm, hst, h⟩⟩⟩⟩
  clear hgt hdl hpm hst HGO
  go_wp2_with fail
  go_loopw [9] (fun i wr => ∃ j : Nat, i = .int .i64 (j : Int) ∧ j ≤ m ∧ Hid (∀ d ∈ rs.take j, ctE (fs.map Prod.fst) rs d = 0) ∧ Hid (Below w2.heap.size w2 wr)) (fun i _ => m - (intOf i).toNat)
  case atStart => exact ⟨0, rfl, Nat.zero_le _, (fun d h => by simp at h), Below.refl _ _⟩
  case round =>
    obtain ⟨j, rfl, hj, hD, hbw⟩ := hrel
    have zwr := hbw.out.size
    have HBwr : Hid (Below w.heap.size w wr) := HB2.out.trans (hbw.out.mono (by omega))
    by_cases hjt : j < m
    · have hlz2 : (j : Int) < (m : Int) := by omega
      obtain ⟨bb, off, t, rfl, hbB, ht, y0, y1, y2, y3⟩ := (HS2.out.below hbw.out (Nat.le_refl _)).tg hjt
      have HTt := Lib.hid ht
      have htm := Lib.hid (List.mem_of_getElem? ht)
      have HY : Hid (∀ W, Below wr.heap.size wr W → W.cell? ⟨bb, off + j * 4, none⟩ = some (.string t.lab)) := fun W hb => (hb.cell (by show bb < _; omega)).trans y0
      have HCK := Lib.hid (proper_any A n c (some ⟨bb, off, none⟩) m c2 w2.heap.size fs rs t wr ((H0.out.below HBwr.out hB).more (by omega)) (HS2.out.below hbw.out (Nat.le_refl _)) ((HX2.out t htm.out).below hbw.out (Nat.le_refl _)) (fun o ho => (HX2.out o ho).below hbw.out (Nat.le_refl _)) zwr (by omega) (by omega) (by have := HLS.out t htm.out; omega) (fun o ho => by have := HLS.out o ho; omega) HKD.out)
      obtain ⟨ev, hev⟩ : ∃ ev, ctE (fs.map Prod.fst) rs t = ev := ⟨_, rfl⟩
      rw [hev] at HCK
      have HEV := Lib.hid hev
      unfold tgV at HCK
      clear ht hev
      obtain ⟨lab, kind, dA, dn, dc, deps, vA, vn, vc, vis⟩ := t
      simp only at y0 y1 y2 y3 HCK HTt HEV htm HY
      go_wp2_with (go_at_call 56; refine HCK.out.mono ?_; rintro e w5 ⟨rfl, hb5⟩; refine halt_ ?_)
      refine unhalt ?_
      have HB5 : Hid (Below w2.heap.size w2 w5) := hbw.out.trans (hb5.mono zwr)
      have x0 := HY.out w5 hb5
      clear hb5 HCK y0 y1 y2 y3
      by_cases he5 : ev = 0
      · subst he5
        have HD2 : Hid (∀ d ∈ rs.take (j + 1), ctE (fs.map Prod.fst) rs d = 0) := fun d hd => by
          rw [take_snoc HTt.out] at hd
          rcases List.mem_append.1 hd with hd | hd
          · exact hD.out d hd
          · rw [List.mem_singleton.1 hd]; exact HEV.out
        go_wp2_with fail
        go_roundw
        case rel => exact ⟨j + 1, by go_num, hjt, HD2.out, HB5.out⟩
        case measure => simp [intOf]; omega
      · have he5' : (ev != 0) = true := by simpa using he5
        have HE : Hid (LdR fs [] lab ev) := HLD.out _ _ _ (ldT_bad HTt.out hD.out HEV.out he5)
        have HR5 := Lib.hid (HK2.out.below HB5.out zw2)
        have f0 := HR5.out.free 0
        have r0 := HR5.out.cell 0
        simp at r0
        have HBw5 : Hid (Below w.heap.size w w5) := HB2.out.trans (HB5.out.mono (by omega))
        have q1 : (w5.setCell ⟨w.heap.size, 0, none⟩ (.slice none 0 0)).cell? ⟨bb, off + j * 4, none⟩ = some (.string lab) := by
          refine (World.cell?_setCell_other _ _ _ _ fun e => ?_).trans x0
          rw [← e, r0] at x0
          cases x0
        clear he5
        go_wp2_with fail
        go_region
        go_wp2_with fail
        exact bodyPost_ret (res_cellG Tryz.results14 rfl ((HR5.out.drewN _).set1 _) rfl rfl) rfl (LdEnd.none_ HE.out ((below_drewN HBw5.out _).setCell (Nat.le_refl _) _))
    · have hlz2 : ¬ (j : Int) < (m : Int) := by omega
      have HALL : Hid (∀ d ∈ rs, ctE (fs.map Prod.fst) rs d = 0) := fun d hd => hD.out d (by rw [List.take_of_length_le (by rw [hrl.out]; omega)]; exact hd)
      have HCY := Lib.hid (rcycle_any A2 m c2 w2.heap.size rs wr (HS2.out.below hbw.out (Nat.le_refl _)) (fun t ht => (HX2.out t ht).below hbw.out (Nat.le_refl _)) zwr (by omega))
      go_wp2_with (go_at_call 21; refine HCY.out.mono ?_; rintro e w5 ⟨A5, m5, c5, l5, rfl, hs5, hmc5, hcm5, hc5, hb5⟩; refine halt_ ?_)
      refine unhalt ?_
      have hl5 : l5.length = m5 := by have := hs5.1; rw [strs_len] at this; omega
      have HB5 : Hid (Below w2.heap.size w2 w5) := hbw.out.trans (hb5.mono zwr)
      have HR5 := Lib.hid (HK2.out.below HB5.out zw2)
      have f0 := HR5.out.free 0
      have r0 := HR5.out.cell 0
      simp at r0
      have HBw5 : Hid (Below w.heap.size w w5) := HB2.out.trans (HB5.out.mono (by omega))
      have HS5 := Lib.hid hs5; have HC5 := Lib.hid hc5
      clear hs5 hc5 hb5 HCY
      cases l5 with
      | nil =>
        obtain rfl : m5 = 0 := hl5.symm
        have HE : Hid (LdR fs (rs.map ct) ⟨#[]⟩ 0) := HLD.out _ _ _ (ldT_ok HALL.out HC5.out)
        have HS6 := Lib.hid (HS2.out.upon HB5.out)
        have HX6 : Hid (∀ t ∈ rs, TgOk w5 w5.heap.size t) := fun t ht => (HX2.out t ht).on HB5.out
        clear hl5
        go_wp2_with fail
        exact bodyPost_ret (res_cellG Tryz.results14 rfl (HR5.out.set1 _) rfl rfl) rfl ⟨A2, m, c2, rs, _, 0, rfl, by rw [set_size2]; exact HS6.out.far_box HR5.out _, (fun t ht => by rw [set_size2]; exact (HX6.out t ht).far HR5.out _), hmc, hcm, HE.out, HBw5.out.setCell (Nat.le_refl _) _⟩
      | cons x xs =>
        have hm5 : 0 < m5 := by rw [← hl5]; simp
        have HE : Hid (LdR fs [] x 23) := HLD.out _ _ _ (ldT_cyc HALL.out HC5.out)
        obtain ⟨cb, co, x', rfl, hcb, hx', q0⟩ := HS5.out.str_at hm5
        obtain rfl : x' = x := by simp at hx'; exact hx'.symm
        have hm5z : (0 : Int) < (m5 : Int) := by omega
        simp only [Nat.add_zero] at q0
        have q1 : (w5.setCell ⟨w.heap.size, 0, none⟩ (.slice none 0 0)).cell? ⟨cb, co, none⟩ = some (.string x') := by
          refine (World.cell?_setCell_other _ _ _ _ fun e => ?_).trans q0
          rw [← e, r0] at q0
          cases q0
        clear hx' hl5 hm5
        go_wp2_with fail
        go_region
        go_wp2_with fail
        exact bodyPost_ret (res_cellG Tryz.results14 rfl ((HR5.out.drewN _).set1 _) rfl rfl) rfl (LdEnd.none_ HE.out ((below_drewN HBw5.out _).setCell (Nat.le_refl _) _))
end Go.Proofs.YtddlohbhchjjhaaGreatDoor

namespace Go.Proofs.YtddlohbhchjjhaaGreatDoor
open Go.RowKit Go.Maps

theorem LdR.few {fs : List Fl} {us : List Ct} {wh : ByteArray} {err : Int} (h : LdR fs us wh err) : us.length ≤ 100 := by
  obtain ⟨e0, _, ⟨_, rfl, _, _⟩ | ⟨_, ⟨p, e, _, rfl, _, _⟩ | ⟨ds, _, ⟨_, rfl, _, _⟩ | ⟨hd, ss, hp, _, ⟨k, c, _, _, _, _, rfl, _⟩ | ⟨_, l, _, ⟨_, _, _, rfl, _, _⟩ | ⟨_, rfl, _, _⟩⟩⟩⟩⟩⟩ := h
  · exact Nat.zero_le _
  · exact Nat.zero_le _
  · exact Nat.zero_le _
  · exact Nat.zero_le _
  · exact Nat.zero_le _
  · rw [hp.length_eq]; exact hd
set_option maxRecDepth 100000 in
set_option maxHeartbeats 16000000 in
theorem lawLoad_any (A : Option Addr) (n c : Nat) (fs : List Fl) (w : World) (h0 : Sl w w.heap.size 2 A n (flat flC fs)) (hn : n ≤ maxLen) (hfs : ∀ f ∈ fs, f.1.size ≤ maxLen ∧ f.2.size ≤ maxLen) :
    Calls Tryz.prog 3 #[.slice A n c] w (LawEnd w) := by
  have H0 := Lib.hid h0
  have HGR := Lib.hid (great9_any A n c w.heap.size fs w h0 hn hfs)
  clear h0 hfs
  go_enter Tryz.func3, Tryz.ntmps3
  go_wp2_with fail
  refine HGR.out.mono ?_
  rintro e w1 ⟨r, rfl, hsm, rfl⟩
  cases r with
  | true =>
    clear hsm
    go_wp2_with fail
    refine (awake_any _).mono ?_
    rintro e wz ⟨rfl, hbz⟩
    have HBz := Lib.hid (hbz); clear hbz
    go_wp2_with fail
    go_ret
    exact ⟨rfl, HBz.out⟩
  | false =>
    obtain ⟨hn10, hsm⟩ := hsm rfl
    have HSM := Lib.hid hsm; clear hsm HGR
    have HLO := Lib.hid (load_any A n c w.heap.size fs w H0.out (Nat.le_refl _) (by omega) (fun f hf => by have := HSM.out f hf; omega))
    go_wp2_with fail
    refine HLO.out.mono ?_
    rintro e w2 ⟨A2, m, c2, rs, wh, err, rfl, hs, hx, hmc, hcm, hl, hb⟩
    have HL := Lib.hid hl
    have hml := hs.len tgC_len (by omega)
    have HB2 := Lib.hid hb; have HS2 := Lib.hid hs; have HX2 := Lib.hid hx
    obtain ⟨W3, hW3⟩ : ∃ W, w2.alloc (.cells #[.slice A2 m c2] 27) = W := ⟨_, rfl⟩
    have zb2 := hb.size
    have hb23 : Below w2.heap.size w2 W3 := by rw [← hW3]; exact (Below.refl _ w2).alloc (Nat.le_refl _) _
    have HB3 : Hid (Below w.heap.size w W3) := HB2.out.trans (hb23.mono zb2)
    have HG3 : Hid (Bk W3 w2.heap.size 27 #[.slice A2 m c2]) := by rw [← hW3]; exact Bk.new w2 _ _
    have HS3 := Lib.hid (HS2.out.upon hb23)
    have HX3 : Hid (∀ t ∈ rs, TgOk W3 W3.heap.size t) := fun t ht => (HX2.out t ht).on hb23
    have zg : w2.heap.size < W3.heap.size := HG3.out.lt
    have HRL := Lib.hid (rload_any A n c W3.heap.size fs W3 ((H0.out.below HB3.out (Nat.le_refl _)).more HB3.out.size) (Nat.le_refl _) (by omega) (fun f hf => by have := HSM.out f hf; omega))
    clear hb23 hs hx hl hb HLO HS2 HX2
    go_wp2_with (go_at_call 14; refine HRL.out.mono ?_; rintro e w4 ⟨A4, m4, c4, qs, wh4, err4, rfl, hs4, hx4, hmc4, hcm4, hl4, hb4⟩; refine halt_ ?_)
    refine unhalt ?_
    obtain ⟨heq, hwe, hee⟩ := HL.out.uniq hl4
    have HEQ := Lib.hid heq
    subst hwe hee
    have zb4 := hb4.size
    obtain ⟨W5, hW5⟩ : ∃ W, w4.alloc (.cells #[.slice A4 m4 c4] 27) = W := ⟨_, rfl⟩
    have hb45 : Below w4.heap.size w4 W5 := by rw [← hW5]; exact (Below.refl _ w4).alloc (Nat.le_refl _) _
    have HB5 : Hid (Below w.heap.size w W5) := HB3.out.trans ((hb4.trans (hb45.mono zb4)).mono HB3.out.size)
    have HG5 : Hid (Bk W5 w4.heap.size 27 #[.slice A4 m4 c4]) := by rw [← hW5]; exact Bk.new w4 _ _
    have HG35 := Lib.hid ((HG3.out.below hb4 zg).below hb45 (by omega))
    have HS4 := Lib.hid (Sl.upon hs4 hb45)
    have HX4 : Hid (∀ t ∈ qs, TgOk W5 W5.heap.size t) := fun t ht => (hx4 t ht).on hb45
    have HS35 := Lib.hid ((HS3.out.upon hb4).upon hb45)
    have HX35 : Hid (∀ t ∈ rs, TgOk W5 W5.heap.size t) := fun t ht => ((HX3.out t ht).on hb4).on hb45
    have u0 := HG35.out.cell 0; have u1 := HG5.out.cell 0
    simp at u0 u1
    have hml4 := hs4.len tgC_len (by omega)
    have hlm : rs.length ≤ 1000000 := by
      have := HL.out.few
      rw [List.length_map] at this
      omega
    have HSA := Lib.hid (same_any A2 A4 m c2 m4 c4 W5.heap.size rs qs W5 HS35.out HS4.out HX35.out HX4.out (Nat.le_refl _) (by omega) HEQ.out)
    have hse : (wh.toList == wh.toList) = true := by simp
    have hsi : (err == err) = true := by simp
    clear hb45 hs4 hx4 hl4 hb4 HRL heq hml hml4 hlm
    go_wp2_with (first | (go_at_call 15; refine HSA.out.mono ?_; rintro e w6 ⟨rfl, hb6⟩; refine halt_ ?_))
    refine unhalt ?_
    have HB6 : Hid (Below w.heap.size w w6) := HB5.out.trans (hb6.mono HB5.out.size)
    clear hb6 hW3 hW5 u0 u1
    go_wp2_with fail
    refine (awake_any _).mono ?_
    rintro e wz ⟨rfl, hbz⟩
    have HBz := Lib.hid (HB6.out.trans (hbz.mono HB6.out.size)); clear hbz
    go_wp2_with fail
    go_ret
    exact ⟨rfl, HBz.out⟩
end Go.Proofs.YtddlohbhchjjhaaGreatDoor
