/-
  Lemmas: The reference's reader of objects: number, text, digest, on whatever is before it. What the reference's Decode reads, as a function of the bytes; in plain Lean. The reference's Label. tree.isPath. The reference's paths: cut, ValidName, Path, Below. The reference's check of an object's fields: entries; exact. The reference's check of an object's fields: commits, and all kinds; exact. The reference's check of an object's fields: all kinds; exact. cordwoodref07.Bytes: the 16 bytes of a digest. cordwoodref01.put, PutInt and PutText.
-/
import Derived.Deep.QuietTactic
import Derived.BigQuiet
import Derived.IntWalk
import Derived.Test.YtmdhlkkekidknaaGreatDoorV6
import Derived.Test.YtmdhlkkekidknaaGreatDoorV2
import Derived.Test.YtmdhlkkekidknaaGreatDoorV1
import Derived.Test.YtmdhlkkekidknaaGreatDoorV3
import Derived.Test.YtmdhlkkekidknaaGreatDoorV4
import Derived.Test.YtmdhlkkekidknaaGreatDoorV5

namespace Go.Proofs.YtmdhlkkekidknaaGreatDoor
open Go.RowKit

abbrev St := Bytes × Bool
def rn (st : St) : Nat × St := if st.2 = true ∨ (getI st.1).2.2 ≠ 0 then (0, st.1, true) else ((getI st.1).1, st.1.drop (getI st.1).2.1, false)
def rt (st : St) : Bytes × St := if st.2 = true ∨ (getT st.1).2.2 ≠ 0 then ([], st.1, true) else ((getT st.1).1, st.1.drop (getT st.1).2.1, false)
def rg (st : St) : Dig × St := if st.2 = true ∨ st.1.length < 16 then (zD, st.1, true) else (dg st.1, st.1.drop 16, false)
theorem rn_enc {k : Nat} (h : k ≤ 1099511627776) (r : Bytes) : rn (encN k ++ r, false) = (k, r, false) := by
  unfold rn; simp only; rw [getI_enc h r, if_neg (by simp)]; simp
theorem rt_enc {t : Bytes} (h : t.length ≤ 65536) (r : Bytes) : rt (encT t ++ r, false) = (t, r, false) := by
  unfold rt; simp only; rw [getT_enc h r, if_neg (by simp)]; simp
theorem rg_enc {d : Dig} (h : WfD d) (r : Bytes) : rg (digB d ++ r, false) = (d, r, false) := by
  unfold rg; simp only
  rw [if_neg (by rw [List.length_append, digB_len]; simp), dg_digB h r, List.drop_left' (digB_len d)]
theorem rn_len (st : St) : (rn st).2.1.length ≤ st.1.length ∧ (rn st).1 ≤ 1099511627776 := by
  unfold rn
  split
  · exact ⟨Nat.le_refl _, Nat.zero_le _⟩
  · exact ⟨by simp, getI_max _⟩
theorem getT_short (l : Bytes) : (getT l).1.length ≤ l.length := by
  unfold getT
  split
  · simp
  · split
    · simp
    · split
      · simp
      · simp; omega
theorem rt_len (st : St) : (rt st).2.1.length ≤ st.1.length ∧ (rt st).1.length ≤ st.1.length := by
  unfold rt
  split
  · exact ⟨Nat.le_refl _, Nat.zero_le _⟩
  · exact ⟨by simp, getT_short _⟩
theorem rg_len (st : St) : (rg st).2.1.length ≤ st.1.length ∧ WfD (rg st).1 := by
  unfold rg
  split
  · exact ⟨Nat.le_refl _, wf_zD⟩
  · exact ⟨by simp, wf_dg _⟩
theorem extract_dr (s : ByteArray) (k : Nat) : s.extract k s.size = ofL ((toL s).drop k) := by
  apply toL_inj
  show (s.extract k s.size).data.toList = (toL s).drop k
  rw [ByteArray.data_extract, Array.toList_extract, List.extract_eq_take_drop, List.take_of_length_le]
  · rfl
  · rw [List.length_drop, size_toL]; exact Nat.le_refl _
def RzE (v : Value) (b : Nat) (st : St) (w : World) (e : Ending) (w' : World) : Prop := e = .returned v ∧ Bk w' b 152 #[.string (ofL st.1), .bool st.2] ∧ Gb (fun g => g = b) w w'
theorem gb_set1 (w : World) (b i : Nat) (x : Value) : Gb (fun g => g = b) w (w.setCell ⟨b, i, none⟩ x) := Gb.set (p := fun g => g = b) (x := b) rfl i x
set_option maxRecDepth 100000 in
set_option maxHeartbeats 2000000 in
theorem rnum7_any (b : Nat) (r : Bytes) (bad : Bool) (w : World) (hk : Bk w b 152 #[.string (ofL r), .bool bad]) (hl : r.length ≤ 1000000) :
    Calls Tryz.prog 123 #[.pointer (some ⟨b, 0, none⟩)] w (RzE (.int .i64 ((rn (r, bad)).1 : Nat)) b (rn (r, bad)).2 w) := by
  have HD : Hid (rn (r, bad) = if bad = true ∨ (getI r).2.2 ≠ 0 then (0, r, true) else ((getI r).1, r.drop (getI r).2.1, false)) := rfl
  have hle := getI_le r
  obtain ⟨s, hs⟩ : ∃ s, ofL r = s := ⟨_, rfl⟩
  rw [hs] at hk
  have htl : toL s = r := by rw [← hs]; rfl
  have hsz : s.size = r.length := by rw [← hs]; rfl
  have HG := Lib.hid (refGetInt_any s w)
  rw [htl] at HG
  have HX := Lib.hid (extract_dr s (getI r).2.1)
  rw [htl] at HX
  have HS : Hid (s = ofL r) := hs.symm
  have HK := Lib.hid hk
  obtain ⟨x0, x1, f0, f1⟩ := hk.two
  unfold RetI at HG
  generalize getI r = g at *
  obtain ⟨n, k, e⟩ := g
  simp only at HD hle HG HX
  rw [← hsz] at hle
  have hki : (k : Int) ≤ (s.size : Int) := by omega
  have hsm : (s.size : Int) ≤ 1000000 := by omega
  clear hk hs htl hsz hl
  have fin : ∀ q, rn (r, bad) = q → ∀ v' w', (∃ p : St, q.2 = p ∧ (.int .i64 (q.1 : Nat)) = v' ∧ Bk w' b 152 #[.string (ofL p.1), .bool p.2] ∧ Gb (fun g => g = b) w w') → RzE (.int .i64 ((rn (r, bad)).1 : Nat)) b (rn (r, bad)).2 w (.returned v') w' := fun q hq v' w' ⟨p, h1, h2, h3, h4⟩ => by rw [hq]; exact ⟨by rw [h2], by rw [h1]; exact h3, h4⟩
  have FIN := Lib.hid fin
  clear fin
  go_enter Tryz.func123, Tryz.ntmps123
  go_wp2_with fail
  refine HG.out.mono ?_
  rintro e' w' ⟨rfl, rfl⟩
  by_cases hb : bad = true ∨ e ≠ 0
  · have HQ : Hid (rn (r, bad) = (0, r, true)) := by show _ = _; rw [HD.out, if_pos hb]
    have hfin : Bk (w.setCell ⟨b, 1, none⟩ (.bool true)) b 152 #[.string (ofL r), .bool true] := by
      have := HK.out.set 1 (.bool true); rw [HS.out] at this; simpa using this
    have HF := Lib.hid hfin
    clear hfin HD
    cases bad with
    | true =>
      clear hb
      go_wp2_with fail
      go_ret
      exact FIN.out _ HQ.out _ _ ⟨_, rfl, rfl, HF.out, gb_set1 _ _ _ _⟩
    | false =>
      have he : (e != 0) = true := by rw [bne_iff_ne]; simpa using hb
      clear hb
      go_wp2_with fail
      go_ret
      exact FIN.out _ HQ.out _ _ ⟨_, rfl, rfl, HF.out, gb_set1 _ _ _ _⟩
  · have HQ : Hid (rn (r, bad) = (n, r.drop k, false)) := by show _ = _; rw [HD.out, if_neg hb]
    obtain rfl : bad = false := by cases bad <;> simp at hb ⊢
    have he : e = 0 := by simpa using hb
    subst he
    have hfin : Bk (w.setCell ⟨b, 0, none⟩ (.string (s.extract k s.size))) b 152 #[.string (ofL (r.drop k)), .bool false] := by
      have := HK.out.set 0 (.string (s.extract k s.size))
      rw [← HX.out]; simpa using this
    have HF := Lib.hid hfin
    clear hfin HD hb
    go_wp2_with fail
    go_ret
    exact FIN.out _ HQ.out _ _ ⟨_, rfl, rfl, HF.out, gb_set1 _ _ _ _⟩
set_option maxRecDepth 100000 in
set_option maxHeartbeats 2000000 in
theorem rtxt7_any (b : Nat) (r : Bytes) (bad : Bool) (w : World) (hk : Bk w b 152 #[.string (ofL r), .bool bad]) (hl : r.length ≤ 1000000) :
    Calls Tryz.prog 124 #[.pointer (some ⟨b, 0, none⟩)] w (RzE (.string (ofL (rt (r, bad)).1)) b (rt (r, bad)).2 w) := by
  have HD : Hid (rt (r, bad) = if bad = true ∨ (getT r).2.2 ≠ 0 then ([], r, true) else ((getT r).1, r.drop (getT r).2.1, false)) := rfl
  have hle := getT_le r
  obtain ⟨s, hs⟩ : ∃ s, ofL r = s := ⟨_, rfl⟩
  rw [hs] at hk
  have htl : toL s = r := by rw [← hs]; rfl
  have hsz : s.size = r.length := by rw [← hs]; rfl
  have HG := Lib.hid (refGetText_any s (by unfold maxLen; omega) w)
  rw [htl] at HG
  have HX := Lib.hid (extract_dr s (getT r).2.1)
  rw [htl] at HX
  have HS : Hid (s = ofL r) := hs.symm
  have HK := Lib.hid hk
  obtain ⟨x0, x1, f0, f1⟩ := hk.two
  unfold RetT at HG
  generalize getT r = g at *
  obtain ⟨n, k, e⟩ := g
  simp only at HD hle HG HX
  rw [← hsz] at hle
  have hki : (k : Int) ≤ (s.size : Int) := by omega
  have hsm : (s.size : Int) ≤ 1000000 := by omega
  clear hk hs htl hsz hl
  have fin : ∀ q, rt (r, bad) = q → ∀ v' w', (∃ p : St, q.2 = p ∧ (.string (ofL q.1)) = v' ∧ Bk w' b 152 #[.string (ofL p.1), .bool p.2] ∧ Gb (fun g => g = b) w w') → RzE (.string (ofL (rt (r, bad)).1)) b (rt (r, bad)).2 w (.returned v') w' := fun q hq v' w' ⟨p, h1, h2, h3, h4⟩ => by rw [hq]; exact ⟨by rw [h2], by rw [h1]; exact h3, h4⟩
  have FIN := Lib.hid fin
  clear fin
  go_enter Tryz.func124, Tryz.ntmps124
  go_wp2_with fail
  refine HG.out.mono ?_
  rintro e' w' ⟨rfl, rfl⟩
  by_cases hb : bad = true ∨ e ≠ 0
  · have HQ : Hid (rt (r, bad) = ([], r, true)) := by show _ = _; rw [HD.out, if_pos hb]
    have hfin : Bk (w.setCell ⟨b, 1, none⟩ (.bool true)) b 152 #[.string (ofL r), .bool true] := by
      have := HK.out.set 1 (.bool true); rw [HS.out] at this; simpa using this
    have HF := Lib.hid hfin
    clear hfin HD
    cases bad with
    | true =>
      clear hb
      go_wp2_with fail
      go_ret
      exact FIN.out _ HQ.out _ _ ⟨_, rfl, rfl, HF.out, gb_set1 _ _ _ _⟩
    | false =>
      have he : (e != 0) = true := by rw [bne_iff_ne]; simpa using hb
      clear hb
      go_wp2_with fail
      go_ret
      exact FIN.out _ HQ.out _ _ ⟨_, rfl, rfl, HF.out, gb_set1 _ _ _ _⟩
  · have HQ : Hid (rt (r, bad) = (n, r.drop k, false)) := by show _ = _; rw [HD.out, if_neg hb]
    obtain rfl : bad = false := by cases bad <;> simp at hb ⊢
    have he : e = 0 := by simpa using hb
    subst he
    have hfin : Bk (w.setCell ⟨b, 0, none⟩ (.string (s.extract k s.size))) b 152 #[.string (ofL (r.drop k)), .bool false] := by
      have := HK.out.set 0 (.string (s.extract k s.size))
      rw [← HX.out]; simpa using this
    have HF := Lib.hid hfin
    clear hfin HD hb
    go_wp2_with fail
    go_ret
    exact FIN.out _ HQ.out _ _ ⟨_, rfl, rfl, HF.out, gb_set1 _ _ _ _⟩
set_option maxRecDepth 100000 in
set_option maxHeartbeats 8000000 in
theorem rdig7_any (b : Nat) (r : Bytes) (bad : Bool) (w : World) (hk : Bk w b 152 #[.string (ofL r), .bool bad]) (hl : r.length ≤ 1000000) :
    Calls Tryz.prog 125 #[.pointer (some ⟨b, 0, none⟩)] w (RzE (digV (rg (r, bad)).1) b (rg (r, bad)).2 w) := by
  have hbw := hk.lt
  have HD : Hid (rg (r, bad) = if bad = true ∨ r.length < 16 then (zD, r, true) else (dg r, r.drop 16, false)) := rfl
  obtain ⟨s, hs⟩ : ∃ s, ofL r = s := ⟨_, rfl⟩
  rw [hs] at hk
  have htl : toL s = r := by rw [← hs]; rfl
  have hsz : s.size = r.length := by rw [← hs]; rfl
  have HX := Lib.hid (extract_dr s 16)
  rw [htl] at HX
  have HS : Hid (s = ofL r) := hs.symm
  have HE := Lib.hid (w_end r)
  have HTL := Lib.hid htl
  obtain ⟨W0, hW0⟩ : ∃ W0, (w.alloc (.cells #[.int .u64 0, .int .u64 0] 30)).alloc (.cells #[.int .u64 0, .int .u64 0] 30) = W0 := ⟨_, rfl⟩
  have HK0 : Hid (Bk W0 w.heap.size 30 #[.int .u64 0, .int .u64 0]) := by rw [← hW0]; exact (Bk.new w _ _).alloc _
  have HK1 : Hid (Bk W0 (w.heap.size + 1) 30 #[.int .u64 0, .int .u64 0]) := by
    rw [← hW0]
    have := Bk.new (w.alloc (.cells #[.int .u64 0, .int .u64 0] 30)) 30 #[.int .u64 0, .int .u64 0]
    rwa [World.size_alloc] at this
  have HB : Hid (Below w.heap.size w W0) := by rw [← hW0]; exact ((Below.refl _ w).alloc (Nat.le_refl _) _).alloc (by simp) _
  have HR := Lib.hid hk
  have hk0 := hk.below HB.out hbw
  obtain ⟨x0, x1, xf0, xf1⟩ := hk0.two
  obtain ⟨y0, y1, y2, y3⟩ := HK1.out.two
  obtain ⟨z0, z1, e0, e1⟩ := HK0.out.two
  rw [← hW0] at x0 x1 xf0 xf1 y0 y1 y2 y3 z0 z1 e0 e1
  have HW := Lib.hid hW0
  clear hW0
  have HKR := Lib.hid hk0
  have hne1 : b ≠ w.heap.size := by omega
  have hne2 : b ≠ w.heap.size + 1 := by omega
  have fin : ∀ q, rg (r, bad) = q → ∀ v' w', (∃ p : St, q.2 = p ∧ digV q.1 = v' ∧ Bk w' b 152 #[.string (ofL p.1), .bool p.2] ∧ Gb (fun g => g = b) w w') → RzE (digV (rg (r, bad)).1) b (rg (r, bad)).2 w (.returned v') w' := fun q hq v' w' ⟨p, h1, h2, h3, h4⟩ => by rw [hq]; exact ⟨by rw [h2], by rw [h1]; exact h3, h4⟩
  have FIN := Lib.hid fin
  rw [← hsz] at hl
  have HSZ := Lib.hid hsz
  clear hk hk0 hs htl fin hsz
  go_enter Tryz.func125, Tryz.ntmps125
  by_cases hb : bad = true ∨ r.length < 16
  · have HQ : Hid (rg (r, bad) = (zD, r, true)) := by show _ = _; rw [HD.out, if_pos hb]
    clear HD HX HE
    have zs1 : (w.setCell ⟨b, 1, none⟩ (.bool true)).heap.size = w.heap.size := by simp [World.setCell]
    have HF : Hid (Bk (((w.setCell ⟨b, 1, none⟩ (.bool true)).alloc (.cells #[.int .u64 0, .int .u64 0] 30)).alloc (.cells #[.int .u64 0, .int .u64 0] 30)) b 152 #[.string (ofL r), .bool true]) := by
      have := ((HR.out.set 1 (.bool true)).alloc (.cells #[.int .u64 0, .int .u64 0] 30)).alloc (.cells #[.int .u64 0, .int .u64 0] 30)
      rw [HS.out] at this
      show Bk _ _ _ _; simpa using this
    have HFZ : Hid (Bk (((w.setCell ⟨b, 1, none⟩ (.bool true)).alloc (.cells #[.int .u64 0, .int .u64 0] 30)).alloc (.cells #[.int .u64 0, .int .u64 0] 30)) w.heap.size 30 #[.int .u64 0, .int .u64 0]) := by
      have := (Bk.new (w.setCell ⟨b, 1, none⟩ (.bool true)) 30 #[.int .u64 0, .int .u64 0]).alloc (.cells #[.int .u64 0, .int .u64 0] 30)
      rw [zs1] at this; exact this
    have HFG : Hid (Gb (fun g => g = b) w (((w.setCell ⟨b, 1, none⟩ (.bool true)).alloc (.cells #[.int .u64 0, .int .u64 0] 30)).alloc (.cells #[.int .u64 0, .int .u64 0] 30))) := (gb_set1 w b 1 _).trans (Gb.of_below (((Below.refl _ _).alloc (Nat.le_refl _) _).alloc (by simp) _))
    clear zs1
    cases bad with
    | true =>
      clear hb
      go_wp2_with fail
      exact bodyPost_ret (res_cellD Tryz.results125 rfl HFZ.out) rfl (FIN.out _ HQ.out _ _ ⟨_, rfl, rfl, HF.out, HFG.out⟩)
    | false =>
      have h16 : (s.size : Int) < 16 := by
        rcases hb with hb | hb
        · cases hb
        · have := HSZ.out; omega
      clear hb
      go_wp2_with fail
      exact bodyPost_ret (res_cellD Tryz.results125 rfl HFZ.out) rfl (FIN.out _ HQ.out _ _ ⟨_, rfl, rfl, HF.out, HFG.out⟩)
  · have HQ : Hid (rg (r, bad) = (dg r, r.drop 16, false)) := by show _ = _; rw [HD.out, if_neg hb]
    have hbf : bad = false := by
      cases bad with
      | false => rfl
      | true => exact absurd (.inl rfl) hb
    have h16' : ¬ r.length < 16 := fun h => hb (.inr h)
    have h16 : 16 ≤ s.size := by have := HSZ.out; omega
    subst hbf
    clear h16'
    have h16i : ¬ (s.size : Int) < 16 := by omega
    have h16j : (16 : Int) ≤ (s.size : Int) := by omega
    clear HD hb
    go_wp2_with fail
    rw [HW.out]
    clear x0 x1 xf0 xf1 y0 y1 y2 y3 z0 z1 e0 e1
    go_loopw [4] (fun i wr => ∃ k : Nat, k ≤ 16 ∧ i = .int .i64 k ∧ Hid (Bk wr w.heap.size 30 #[.int .u64 0, .int .u64 0]) ∧ Hid (Bk wr (w.heap.size + 1) 30 #[.int .u64 (wd1 r k), .int .u64 (wd2 r k)]) ∧ Hid (Below w.heap.size w wr)) (fun i _ => 16 - (intOf i).toNat)
    case atStart => exact ⟨0, by omega, rfl, HK0.out, HK1.out, HB.out⟩
    case round =>
      obtain ⟨k, hk, rfl, J0, J1, hB⟩ := hrel
      obtain ⟨x0, x1, xf0, xf1⟩ := (HR.out.below hB.out hbw).two
      by_cases hlt : k < 16
      · have hks : k < s.size := by omega
        have hd : s[k].toNat < 256 := s[k].toNat_lt
        have hki : (k : Int) < 16 := by omega
        have hbg : r[k]? = some s[k] := by rw [← HTL.out]; exact byte_get hks
        by_cases h8 : k < 8
        · have hx := wd1_lt (l := r) h8
          obtain ⟨e1, e2⟩ := wd1_step hbg h8
          have HE1 := Lib.hid e1; have HE2 := Lib.hid e2
          have y0 := J1.out.cell 0; have y1 := J1.out.cell 1; have f0 := J1.out.free 0
          simp at y0 y1
          clear e1 e2 hbg HX HQ HE
          have hq : (k : Int) / 8 = 0 := by omega
          generalize wd1 r k = x at *
          generalize wd2 r k = y at *
          go_wp2_with fail
          go_region
          go_wp2_with fail
          go_roundw
          case rel => exact ⟨k + 1, by omega, by go_num, J0.out.far (p := ⟨w.heap.size + 1, 0, none⟩) (by simp) _, by show Bk _ _ _ _; rw [HE1.out, HE2.out]; exact J1.out.set 0 _, (hB.out.setCell (p := ⟨w.heap.size + 1, 0, none⟩) (by simp) _).drew⟩
          case measure => simp [intOf]; omega
        · have hx := wd2_lt (l := r) hlt
          obtain ⟨e1, e2⟩ := wd2_step hbg (by omega)
          have HE1 := Lib.hid e1; have HE2 := Lib.hid e2
          have y0 := J1.out.cell 0; have y1 := J1.out.cell 1; have f1 := J1.out.free 1
          simp at y0 y1
          clear e1 e2 hbg HX HQ HE
          have hq : (k : Int) / 8 = 1 := by omega
          generalize wd1 r k = x at *
          generalize wd2 r k = y at *
          go_wp2_with fail
          go_region
          go_wp2_with fail
          go_roundw
          case rel => exact ⟨k + 1, by omega, by go_num, J0.out.far (p := ⟨w.heap.size + 1, 1, none⟩) (by simp) _, by show Bk _ _ _ _; rw [HE1.out, HE2.out]; exact J1.out.set 1 _, (hB.out.setCell (p := ⟨w.heap.size + 1, 1, none⟩) (by simp) _).drew⟩
          case measure => simp [intOf]; omega
      · have hke : Hid (k = 16) := by show _ = _; omega
        have hki : ¬ (k : Int) < 16 := by omega
        have HX2 : Hid (dg r = ((wd1 r k : Int), (wd2 r k : Int))) := by show _ = _; rw [hke.out]; exact HE.out
        have HRr := Lib.hid (HR.out.below hB.out hbw)
        obtain ⟨y0, y1, _, _⟩ := J1.out.two
        obtain ⟨z0, z1, f0, f1⟩ := J0.out.two
        generalize wd1 r k = x at *
        generalize wd2 r k = y at *
        clear hlt HE
        go_wp2_with fail
        refine bodyPost_ret (res_cellD Tryz.results125 rfl ((J0.out.far (p := ⟨b, 0, none⟩) hne1.symm _).set2 _ _)) rfl (FIN.out _ HQ.out _ _ ⟨_, rfl, by rw [HX2.out]; rfl, ?_, ((((Gb.of_below hB.out).trans (gb_set1 _ _ _ _)).after (Nat.le_refl _) 0 _).after (Nat.le_refl _) 1 _)⟩)
        rw [← HX.out]
        have := (((HRr.out.set 0 (.string (s.extract 16 s.size))).far (p := ⟨w.heap.size, 0, none⟩) hne1 (.int .u64 x)).far (p := ⟨w.heap.size, 1, none⟩) hne1 (.int .u64 y))
        simpa using this
end Go.Proofs.YtmdhlkkekidknaaGreatDoor

namespace Go.Proofs.YtmdhlkkekidknaaGreatDoor
open Go.RowKit

def rE : Nat → St → List Ent × St
  | 0, st => ([], st)
  | m + 1, st => if st.2 = true then ([], st) else (⟨ofL (rt st).1, decide ((rn (rt st).2).1 = 1), (rg (rn (rt st).2).2).1⟩ :: (rE m (rg (rn (rt st).2).2).2).1, (rE m (rg (rn (rt st).2).2).2).2)
def rD : Nat → St → List Dig × St
  | 0, st => ([], st)
  | m + 1, st => if st.2 = true then ([], st) else ((rg st).1 :: (rD m (rg st).2).1, (rD m (rg st).2).2)
def pz7 (s : Bytes) : Ob × St :=
  let k := rn (s, false)
  if k.1 = 2 then
    let n := rn k.2
    let q := rE n.1 n.2
    (⟨2, ⟨#[]⟩, q.1, zD, [], ⟨#[]⟩, 0, ⟨#[]⟩⟩, q.2)
  else if k.1 = 3 then
    let t := rg k.2
    let n := rn t.2
    let q := rD n.1 n.2
    let a := rt q.2
    let i := rn a.2
    let m := rt i.2
    (⟨3, ⟨#[]⟩, [], t.1, q.1, ofL a.1, (i.1 : Int), ofL m.1⟩, m.2)
  else
    let t := rt k.2
    (⟨(k.1 : Int), ofL t.1, [], zD, [], ⟨#[]⟩, 0, ⟨#[]⟩⟩, t.2)
theorem rE_enc : ∀ (l : List Ent) (r : Bytes), (∀ e ∈ l, OkEnt e) → rE l.length (l.flatMap encE ++ r, false) = (l, r, false)
  | [], r, _ => rfl
  | e :: l, r, h => by
    have he := h e (by simp)
    have hns := nameB_size he.nm
    rw [size_toL] at hns
    have h1 : rt ((e :: l).flatMap encE ++ r, false) = (toL e.nm, encN (if e.dir = true then 1 else 0) ++ (digB e.dg ++ (l.flatMap encE ++ r)), false) := by
      rw [List.flatMap_cons]
      unfold encE
      simp only [List.append_assoc]
      exact rt_enc (by omega) _
    have h2 : rn (encN (if e.dir = true then 1 else 0) ++ (digB e.dg ++ (l.flatMap encE ++ r)), false) = (if e.dir = true then 1 else 0, digB e.dg ++ (l.flatMap encE ++ r), false) := rn_enc (by split <;> omega) _
    have h3 : rg (digB e.dg ++ (l.flatMap encE ++ r), false) = (e.dg, l.flatMap encE ++ r, false) := rg_enc he.dg _
    have ih := rE_enc l r (fun x hx => h x (by simp [hx]))
    rw [List.length_cons, rE, if_neg (by simp), h1]
    simp only
    rw [h2]
    simp only
    rw [h3]
    simp only
    rw [ih]
    obtain ⟨nm, dir, dg⟩ := e
    cases dir <;> simp [ofL_toL]
theorem rD_enc : ∀ (l : List Dig) (r : Bytes), (∀ d ∈ l, WfD d) → rD l.length (l.flatMap digB ++ r, false) = (l, r, false)
  | [], r, _ => rfl
  | d :: l, r, h => by
    have h3 : rg ((d :: l).flatMap digB ++ r, false) = (d, l.flatMap digB ++ r, false) := by
      rw [List.flatMap_cons, List.append_assoc]; exact rg_enc (h d (by simp)) _
    have ih := rD_enc l r (fun x hx => h x (by simp [hx]))
    rw [List.length_cons, rD, if_neg (by simp), h3]
    simp only
    rw [ih]
theorem pz7_enc {o : Ob} (h : OkO o) : pz7 (encO o) = (o, [], false) := by
  have hk := h.f.kind_le
  have h0 : rn (encO o, false) = (o.kind.toNat, encB o, false) := by unfold encO; exact rn_enc (by omega) _
  unfold pz7
  simp only [h0]
  cases h.f with
  | blob k e c d =>
    rw [if_neg (by omega), if_neg (by omega)]
    have h1 : rt (encB o, false) = (toL o.data, [], false) := by
      unfold encB
      rw [if_neg (by omega), if_neg (by omega), ← List.append_nil (encT (toL o.data))]
      exact rt_enc (by rw [← size_toL]; exact d) _
    simp only [h1]
    obtain ⟨c1, c2, c3, c4, c5⟩ := c
    obtain ⟨kind, data, ents, tree, pars, auth, time, msg⟩ := o
    simp only at e c1 c2 c3 c4 c5 hk
    subst e c1 c2 c3 c4 c5
    have : ((kind.toNat : Nat) : Int) = kind := by omega
    simp only [ofL_toL, this]
  | tree k d c e =>
    rw [if_pos (by omega)]
    have h1 : rn (encB o, false) = (o.ents.length, o.ents.flatMap encE ++ [], false) := by
      unfold encB
      rw [if_pos k, List.append_nil]
      exact rn_enc (by have := e.few; omega) _
    have h2 := rE_enc o.ents [] e.all
    simp only [h1, h2]
    obtain ⟨c1, c2, c3, c4, c5⟩ := c
    obtain ⟨kind, data, ents, tree, pars, auth, time, msg⟩ := o
    simp only at k d c1 c2 c3 c4 c5
    subst k d c1 c2 c3 c4 c5
    rfl
  | commit k d e c =>
    rw [if_neg (by omega), if_pos (by omega)]
    have hau := nameB_size c.auth
    have hmg := c.msg
    have ht0 := c.t0
    have ht1 := c.t1
    rw [size_toL] at hau hmg
    have h1 : rg (encB o, false) = (o.tree, encN o.pars.length ++ (o.pars.flatMap digB ++ (encT (toL o.auth) ++ (encN o.time.toNat ++ (encT (toL o.msg) ++ [])))), false) := by
      unfold encB
      rw [if_neg (by omega), if_pos k, List.append_nil]
      exact rg_enc c.wf _
    have h2 : rn (encN o.pars.length ++ (o.pars.flatMap digB ++ (encT (toL o.auth) ++ (encN o.time.toNat ++ (encT (toL o.msg) ++ [])))), false) = _ := rn_enc (by have := c.pars.few; omega) _
    have h3 := rD_enc o.pars (encT (toL o.auth) ++ (encN o.time.toNat ++ (encT (toL o.msg) ++ []))) c.pars.wf
    have h4 : rt (encT (toL o.auth) ++ (encN o.time.toNat ++ (encT (toL o.msg) ++ [])), false) = _ := rt_enc (by omega) _
    have h5 : rn (encN o.time.toNat ++ (encT (toL o.msg) ++ []), false) = _ := rn_enc (by omega) _
    have h6 : rt (encT (toL o.msg) ++ [], false) = _ := rt_enc (by omega) _
    simp only [h1, h2, h3, h4, h5, h6]
    obtain ⟨kind, data, ents, tree, pars, auth, time, msg⟩ := o
    simp only at k d e ht0
    subst k d e
    have : ((time.toNat : Nat) : Int) = time := by omega
    simp only [ofL_toL, this]
theorem rE_ok : ∀ (m : Nat) (st : St), (∀ e ∈ (rE m st).1, e.nm.size ≤ st.1.length ∧ WfD e.dg) ∧ (rE m st).2.1.length ≤ st.1.length
  | 0, st => ⟨(fun e h => by cases h), Nat.le_refl _⟩
  | m + 1, st => by
    rw [rE]
    split
    · exact ⟨(fun e h => by cases h), Nat.le_refl _⟩
    · have h1 := rt_len st
      have h2 := rn_len (rt st).2
      have h3 := rg_len (rn (rt st).2).2
      obtain ⟨i1, i2⟩ := rE_ok m (rg (rn (rt st).2).2).2
      refine ⟨fun e he => ?_, by simp only; omega⟩
      rcases List.mem_cons.1 he with rfl | he
      · exact ⟨by simp only [size_ofL]; omega, h3.2⟩
      · have := i1 e he; exact ⟨by omega, this.2⟩
theorem rD_ok : ∀ (m : Nat) (st : St), (∀ d ∈ (rD m st).1, WfD d) ∧ (rD m st).2.1.length ≤ st.1.length
  | 0, st => ⟨(fun e h => by cases h), Nat.le_refl _⟩
  | m + 1, st => by
    rw [rD]
    split
    · exact ⟨(fun e h => by cases h), Nat.le_refl _⟩
    · have h3 := rg_len st
      obtain ⟨i1, i2⟩ := rD_ok m (rg st).2
      refine ⟨fun e he => ?_, by simp only; omega⟩
      rcases List.mem_cons.1 he with rfl | he
      · exact h3.2
      · exact i1 e he
end Go.Proofs.YtmdhlkkekidknaaGreatDoor

namespace Go.Proofs.YtmdhlkkekidknaaGreatDoor
open Go.RowKit Go.Shelf

def slashL : List UInt8 → Nat
  | [] => 0
  | c :: r => if c = 47 then 0 else slashL r + 1
theorem slashL_at : ∀ {l : List UInt8} {k : Nat}, (∀ j, j < k → l[j]? ≠ some 47) → k ≤ l.length → (k = l.length ∨ l[k]? = some 47) → slashL l = k
  | [], k, _, h, _ => by simp at h; simp [slashL, h]
  | c :: r, 0, _, _, h3 => by
    rcases h3 with h3 | h3
    · simp at h3
    · simp at h3; simp [slashL, h3]
  | c :: r, k + 1, h1, h2, h3 => by
    have hc : c ≠ 47 := fun e => h1 0 (by omega) (by simp [e])
    simp only [slashL, if_neg hc]
    rw [slashL_at (k := k) (fun j hj => by have := h1 (j + 1) (by omega); simpa using this) (by simp at h2; omega) (by
      rcases h3 with h3 | h3
      · left; simp at h3; omega
      · right; simpa using h3)]
theorem splitS_slash : ∀ (l : List UInt8), splitS l = if slashL l < l.length then l.take (slashL l) :: splitS (l.drop (slashL l + 1)) else [l]
  | [] => rfl
  | c :: r => by
    by_cases hc : c = 47
    · subst hc; simp [splitS, slashL]
    · have ih := splitS_slash r
      simp only [splitS, slashL, if_neg hc]
      rw [ih]
      by_cases h : slashL r < r.length
      · rw [if_pos h, if_pos (by simp; exact h)]; simp
      · rw [if_neg h, if_neg (by simp; omega)]

def szOf : Value → Nat
  | .string t => t.size
  | _ => 0
end Go.Proofs.YtmdhlkkekidknaaGreatDoor

namespace Go.Proofs.YtmdhlkkekidknaaGreatDoor
open Go.RowKit Go.Shelf
attribute [local go_sem] Oper.semAt_some

def pathB (s : ByteArray) : Bool := decide ((bl s).length ≤ 100) && (splitS (bl s)).all nameL
theorem resultsPth {w : World} {a : Array Value} {r : Nat} {x : Bool} (ha : a[2]?.getD undef = .pointer (some ⟨r, 0, none⟩)) (h : w.heap[r]? = some (.cells #[.bool x] 4 (0, 0))) :
    (results Tryz.f48 a).run Tryz.prog w = .ok (.bool x) w := by
  have hc := cell_of_one h
  simp [results, Tryz.results48, ha, go_sem, hc]

set_option maxRecDepth 100000 in
set_option maxHeartbeats 1000000 in
theorem isPath_any (s : ByteArray) (w : World) (hs : s.size ≤ maxLen) :
    Calls Tryz.prog 48 #[.string s] w fun e w' => e = .returned (.bool (pathB s)) ∧ Below w.heap.size w w' := by
  refine (callsIn_wide (n := 6)).1 ?_
  unfold maxLen at hs
  have HL := Lib.hid (size_len s)
  have hf65 : Fence.wide.fn 97 := trivial
  have hf66 : Fence.wide.fn 98 := trivial
  refine callsIn_of_wp_marks Tryz.func48 rfl trivial ?_ rfl
  simp only [Tryz.ntmps48, List.size_toArray, List.length_cons, List.length_nil, Nat.reduceAdd, Nat.reduceSub, Array.replicate_succ, Array.replicate_zero, List.push_toArray, List.append_toArray, List.nil_append, List.cons_append]
  by_cases c1 : 100 < (s.size : Int)
  · have hv : Hid (pathB s = false) := by
      show _ = _
      have := HL.out
      unfold pathB bl; rw [decide_eq_false (by omega), Bool.false_and]
    gi_wp2_with fail
    refine ⟨_, resultsPth rfl (World.alloc_heap_new w _), ?_⟩
    exact ⟨ret_bool hv.out.symm, (Below.refl _ _).alloc (Nat.le_refl _) _⟩
  have c1' : (s.size : Int) ≤ 100 := by omega
  have HN : Hid (pathB s = (splitS (bl s)).all nameL) := by
    show _ = _
    have := HL.out
    unfold pathB; rw [decide_eq_true (by unfold bl; omega), Bool.true_and]
  gi_wp2_with (gi_at_call 97; refine (callsIn_wide.2 (splitSeq_any _ _)).mono ?_; rintro e w' ⟨rfl, rfl⟩)
  obtain ⟨W0, hW0⟩ : ∃ W0, (((w.alloc (.cells #[.bool false] 4)).alloc (.cells #[.string s] 9)).alloc (.cells #[.string ⟨#[47]⟩] 9)).alloc (.cells #[.int .i64 0] 3) = W0 := ⟨_, rfl⟩
  have hz : W0.heap.size = w.heap.size + 4 := by rw [← hW0]; simp
  have g0 : W0.heap[w.heap.size]? = some (.cells #[.bool false] 4 (0, 0)) := by
    rw [← hW0]
    exact (Below.heap_alloc _ _ _ (by simp; omega)).trans ((Below.heap_alloc _ _ _ (by simp; omega)).trans ((Below.heap_alloc _ _ _ (by simp)).trans (World.alloc_heap_new w _)))
  have g1 : W0.heap[w.heap.size + 1]? = some (.cells #[.string s] 9 (0, 0)) := by
    rw [← hW0]
    refine (Below.heap_alloc _ _ _ (by simp)).trans ((Below.heap_alloc _ _ _ (by simp)).trans ?_)
    have := World.alloc_heap_new (w.alloc (.cells #[.bool false] 4)) (.cells #[.string s] 9); rwa [World.size_alloc] at this
  have g2 : W0.heap[w.heap.size + 1 + 1]? = some (.cells #[.string ⟨#[47]⟩] 9 (0, 0)) := by
    rw [← hW0]
    refine (Below.heap_alloc _ _ _ (by simp)).trans ?_
    have := World.alloc_heap_new ((w.alloc (.cells #[.bool false] 4)).alloc (.cells #[.string s] 9)) (.cells #[.string ⟨#[47]⟩] 9); rwa [World.size_alloc, World.size_alloc] at this
  have g3 : W0.heap[w.heap.size + 1 + 2]? = some (.cells #[.int .i64 0] 3 (0, 0)) := by
    rw [← hW0]
    have := World.alloc_heap_new (((w.alloc (.cells #[.bool false] 4)).alloc (.cells #[.string s] 9)).alloc (.cells #[.string ⟨#[47]⟩] 9)) (.cells #[.int .i64 0] 3); rwa [World.size_alloc, World.size_alloc, World.size_alloc] at this
  have hb0 : Below w.heap.size w W0 := by
    rw [← hW0]
    exact ((((Below.refl _ w).alloc (Nat.le_refl _) _).alloc (by simp) _).alloc (by simp; omega) _).alloc (by simp; omega) _
  rw [hW0]
  refine wpIn_rangeP (F := Fence.wide) (n := 6) rfl (by omega) (gf := 185) (lb := #[.pointer (some ⟨w.heap.size + 1 + 1, 0, none⟩), .pointer (some ⟨w.heap.size + 1, 0, none⟩), .pointer (some ⟨w.heap.size + 1 + 2, 0, none⟩)]) rfl trivial (enters_of Tryz.func185 (by kernel_rfl) rfl)
    (split1_st 5 (w.heap.size + 1) (by omega) s W0 (by omega) (by omega) g1 g2 g3) keepS_t (fun W l o hl => keepS_put (m := w.heap.size + 4) (by omega) W l o (by omega)) (stS_others) (Below.refl _ _) (fun _ => rfl)
    (fun pre W => W.heap[w.heap.size]? = some (.cells #[.bool false] 4 (0, 0)) ∧ Hid (∀ x ∈ pre, nameB x = true) ∧ Below w.heap.size w W ∧ w.heap.size + 4 ≤ W.heap.size)
    (fun c pre W => c = .ret ∧ W.heap[w.heap.size]? = some (.cells #[.bool false] 4 (0, 0)) ∧ Hid (∃ x ∈ pre, nameB x = false) ∧ Below w.heap.size w W)
    ?hI ?hIx ?hIS ⟨g0, by simp [Hid], hb0, by omega⟩ ?a1 ?assign ?body ?done ?stop
  case assign =>
    intro l x W K hK
    have HKK := Lib.hid hK
    clear hK
    gi_wp2
    exact HKK.out
  case hI =>
    rintro pre A B row ⟨h1, h2, h3, h4⟩ hg hr
    refine ⟨one_grown' h1 hg (fun e => ?_), h2, h3.grown hg h3.size (fun k e => ?_), Nat.le_trans h4 hg.size⟩
    · have := (hr _ e.symm).1; omega
    · have := (hr _ e).1; omega
  case hIx =>
    rintro c pre A B row ⟨h0, h1, h2, h3⟩ hg hr
    refine ⟨h0, one_grown' h1 hg (fun e => ?_), h2, h3.grown hg h3.size (fun k e => ?_)⟩
    · have := (hr _ e.symm).1; omega
    · have := (hr _ e).1; omega
  case hIS =>
    rintro pre A B ⟨h1, h2, h3, h4⟩ ⟨v, rfl⟩
    exact ⟨(Below.heap_setCell _ _ _ _ (by simp)).trans h1, h2, h3.setCell (p := ⟨w.heap.size + 1, 0, none⟩) (by simp) _, by simpa [World.setCell] using h4⟩
  case body =>
    rintro l pre x W ⟨r, hr⟩ ⟨h1, h2, h3, h4⟩
    have hxs : x.size ≤ maxLen := by
      have hm : bl x ∈ splitS (bl s) := by rw [← hr]; simp
      have h5 := splitS_len (bl s) _ hm
      have h6 := size_len x
      have h7 := HL.out
      unfold bl at h5; unfold maxLen; omega
    have c0 := cell_of_one h1
    have f0 := free_of_one h1
    have H1 := Lib.hid h1; have H3 := Lib.hid h3
    clear h1 h3 g0 g1 g2 g3 hb0 hW0 hr
    cases hv : nameB x with
    | true =>
      have HV := Lib.hid hv
      clear hv
      gi_wp2_with (gi_at_call 98; refine (CallsIn.inRound l (callsIn_wide.2 (vname_any x _ hxs))).mono ?_; rintro e w' ⟨rfl, rfl⟩; rw [HV.out])
      refine ⟨⟨Nat.le_refl _, fun k o hk _ => hk⟩, fun k h5 h6 => rfl, H1.out, ?_, H3.out, h4⟩
      intro y hy
      rcases List.mem_append.1 hy with h | h
      · exact h2.out y h
      · simp at h; subst h; exact HV.out
    | false =>
      have HV := Lib.hid hv
      clear hv
      gi_wp2_with (gi_at_call 98; refine (CallsIn.inRound l (callsIn_wide.2 (vname_any x _ hxs))).mono ?_; rintro e w' ⟨rfl, rfl⟩; rw [HV.out])
      exact ⟨KeepsOthers.setCell _ _ _, rfl, one_setCell H1.out, ⟨x, by simp, HV.out⟩, H3.out.setCell (p := ⟨w.heap.size, 0, none⟩) (Nat.le_refl _) _⟩
  case done =>
    rintro D xs W hD hS ⟨h1, h2, h3, h4⟩ hK
    have c0 := cell_of_one h1
    have f0 := free_of_one h1
    have H1 := Lib.hid h1; have H3 := Lib.hid h3; have HK := Lib.hid hK; have HS := Lib.hid hS
    clear h1 h3 hK hS
    gi_wp2
    have hK2 := (KeepsOthers.setCell W ⟨w.heap.size, 0, none⟩ (.bool true)).same D _ HK.out rfl
    refine ⟨by simp, .inl ⟨_, _, rfl, run_takeDeferred hK2, ?_⟩⟩
    refine ⟨_, resultsPth rfl ((World.putObj_heap_other (by omega)).trans (one_setCell H1.out)), ret_bool ?_, ?_⟩
    · rw [HN.out]
      symm
      rw [List.all_eq_true]
      intro y hy
      have hy' : y ∈ xs.map bl := by rw [HS.out]; exact hy
      obtain ⟨x, hx, rfl⟩ := List.mem_map.1 hy'
      exact h2.out x hx
    · exact (H3.out.setCell (p := ⟨w.heap.size, 0, none⟩) (Nat.le_refl _) _).grown (grownBy_putObj' _ _ _) ((H3.out.setCell (p := ⟨w.heap.size, 0, none⟩) (Nat.le_refl _) _).size) (fun k e => by cases e; omega)
  case stop =>
    rintro D c pre W hD hS ⟨rfl, h1, h2, h3⟩ hK
    have H1 := Lib.hid h1; have H3 := Lib.hid h3; have HK := Lib.hid hK; have HS := Lib.hid hS
    clear h1 h3 hK hS
    gi_wp2
    refine ⟨by simp, .inl ⟨_, _, rfl, run_takeDeferred HK.out, ?_⟩⟩
    refine ⟨_, resultsPth rfl ((World.putObj_heap_other (by omega)).trans H1.out), ret_bool ?_, ?_⟩
    · rw [HN.out]
      symm
      rw [List.all_eq_false]
      obtain ⟨x, hx, hxv⟩ := h2.out
      obtain ⟨r, hr⟩ := HS.out
      refine ⟨bl x, ?_, by simpa [nameB] using hxv⟩
      rw [← hr]
      exact List.mem_append.2 (.inl (List.mem_map.2 ⟨x, hx, rfl⟩))
    · exact H3.out.grown (grownBy_putObj' _ _ _) H3.out.size (fun k e => by cases e; omega)
end Go.Proofs.YtmdhlkkekidknaaGreatDoor

namespace Go.Proofs.YtmdhlkkekidknaaGreatDoor
open Go.RowKit Go.Shelf

def CutR (s a b : ByteArray) (m : Bool) : Prop :=
  (slashL (bl s) < s.size ∧ a = s.extract 0 (slashL (bl s)) ∧ b = s.extract (slashL (bl s) + 1) s.size ∧ m = true) ∨ (slashL (bl s) = s.size ∧ a = s ∧ b = ⟨#[]⟩ ∧ m = false)
def CutEnd (s : ByteArray) (w : World) (e : Ending) (w' : World) : Prop := ∃ a b m, e = .returned (.tuple #[.string a, .string b, .bool m]) ∧ CutR s a b m ∧ Below w.heap.size w w'
theorem resultsCut {w : World} {a : Array Value} {x y z : Value} (hx : a[2]?.getD undef = x) (hy : a[3]?.getD undef = y) (hz : a[4]?.getD undef = z) : (results Tryz.f75 a).run Tryz.prog w = .ok (.tuple #[x, y, z]) w := by
  simp [results, Tryz.results75, hx, hy, hz, go_sem]
set_option maxHeartbeats 2000000 in
theorem cut9_any (s : ByteArray) (w : World) (hs : s.size ≤ 1000000) :
    Calls Tryz.prog 75 #[.string s] w (CutEnd s w) := by
  have HL := Lib.hid (size_len s)
  go_enter Tryz.func75, Tryz.ntmps75
  go_wp2
  go_loopw [5] (fun i wr => ∃ k : Nat, k ≤ s.size ∧ i = .int .i64 k ∧ Hid (∀ j, j < k → (bl s)[j]? ≠ some 47) ∧ wr = w) (fun i _ => s.size - (intOf i).toNat)
  case atStart => exact ⟨0, Nat.zero_le _, rfl, fun j h => absurd h (by omega), rfl⟩
  case round =>
    obtain ⟨k, hk, rfl, hN, rfl⟩ := hrel
    by_cases hlt : k < s.size
    · have hg := Lib.hid (get_data s k hlt)
      have hlz : (k : Int) < (s.size : Int) := by omega
      by_cases h47 : s[k] = 47
      · have t1 : (((s[k].toNat : Nat) : Int) == 47) = true := by simp [h47]
        have HF : Hid (slashL (bl s) = k) := slashL_at hN.out (by unfold bl; rw [← HL.out]; exact hk) (.inr (by show s.data.toList[k]? = _; rw [hg.out, h47]))
        have hw1 : IntKind.i64.wrap ((k : Int) + 1) = (k : Int) + 1 := wrap_sm (by omega) (by omega)
        have hk1 : (k : Int) + 1 ≤ (s.size : Int) := by omega
        have hk2 : (k : Int) ≤ (s.size : Int) := by omega
        have hk3 : ¬ (k : Int) < 0 := by omega
        have hk4 : ¬ (k : Int) + 1 < 0 := by omega
        clear h47
        go_wp2
        go_quiet (fail)
        go_wp2
        exact bodyPost_ret (resultsCut rfl rfl rfl) rfl ⟨_, _, _, rfl, .inl ⟨by rw [HF.out]; exact hlt, by rw [HF.out], by rw [HF.out], rfl⟩, below_drewN (Below.refl _ _) _⟩
      · have t1 : (((s[k].toNat : Nat) : Int) == 47) = false := by
          rw [beq_eq_false_iff_ne]; intro e
          apply h47
          apply UInt8.toNat_inj.1
          show s[k].toNat = 47
          omega
        have HF : Hid (∀ j, j < k + 1 → (bl s)[j]? ≠ some 47) := fun j hj => by
          by_cases e : j = k
          · subst e; show s.data.toList[j]? ≠ _; rw [hg.out]; intro e2; exact h47 (Option.some.inj e2)
          · exact hN.out j (by omega)
        clear h47
        go_wp2
        go_roundw
        case rel => exact ⟨k + 1, hlt, by go_num, HF.out, trivial⟩
        case measure => simp [intOf]; omega
    · have hlz : ¬ (k : Int) < (s.size : Int) := by omega
      have HF : Hid (slashL (bl s) = s.size) := by
        have : k = s.size := by omega
        subst this
        exact slashL_at hN.out (by unfold bl; rw [← HL.out]; exact hk) (.inl (by unfold bl; rw [← HL.out]))
      go_wp2
      exact bodyPost_ret (resultsCut rfl rfl rfl) rfl ⟨_, _, _, rfl, .inr ⟨HF.out, rfl, rfl, rfl⟩, Below.refl _ _⟩
theorem vch_no {c : Int} (h1 : ¬ (97 ≤ c ∧ c ≤ 122)) (h2 : ¬ (65 ≤ c ∧ c ≤ 90)) (h3 : ¬ (48 ≤ c ∧ c ≤ 57)) (h4 : c ≠ 46) (h5 : c ≠ 95) (h6 : c ≠ 45) : vchI c = false := by
  simp [vchI, h4, h5, h6]; omega
theorem vch_yes {c : Int} (h : (97 ≤ c ∧ c ≤ 122) ∨ (65 ≤ c ∧ c ≤ 90) ∨ (48 ≤ c ∧ c ≤ 57) ∨ c = 46 ∨ c = 95 ∨ c = 45) : vchI c = true := by
  simp [vchI]; omega
theorem beq_of {c d : Int} (h : c = d) : (c == d) = true := by rw [h]; simp
theorem beq_no {c d : Int} (h : c ≠ d) : (c == d) = false := by simp [h]
set_option maxRecDepth 100000 in
set_option maxHeartbeats 4000000 in
theorem vname7_any (s : ByteArray) (w : World) (hs : s.size ≤ maxLen) : Calls Tryz.prog 116 #[.string s] w fun e w' => e = .returned (.bool (nameB s)) ∧ w = w' := by
  unfold maxLen at hs
  have HL := Lib.hid (size_len s)
  go_enter Tryz.func116, Tryz.ntmps116
  have hno : ∀ b : Bool, nameB s = b → Hid (nameB s = b) := fun b h => h
  have hls : (bl s).length = s.size := (size_len s).symm
  by_cases c1 : (s.size : Int) < 1
  · have hv := hno false (by unfold nameB nameL; rw [decide_eq_false (by omega), Bool.false_and])
    clear hno hls
    go_wp2_with fail
    go_ret
    exact ⟨ret_bool hv.out.symm, rfl⟩
  by_cases c2 : (24 : Int) < (s.size : Int)
  · have hv := hno false (by unfold nameB nameL; rw [decide_eq_false (p := (bl s).length ≤ 24) (by omega)]; simp)
    clear hno hls
    go_wp2_with fail
    go_ret
    exact ⟨ret_bool hv.out.symm, rfl⟩
  have h3 : (s.toList == [46]) = decide (bl s = [46]) := by rw [ByteArray.toList_eq]; unfold bl; rw [Bool.eq_iff_iff]; simp
  have h4 : (s.toList == [46, 46]) = decide (bl s = [46, 46]) := by rw [ByteArray.toList_eq]; unfold bl; rw [Bool.eq_iff_iff]; simp
  by_cases c3 : bl s = [46]
  · have hv := hno false (by unfold nameB nameL; rw [decide_eq_true c3]; simp)
    rw [decide_eq_true c3] at h3
    clear hno hls h4 c3
    go_wp2_with fail
    go_ret
    exact ⟨ret_bool hv.out.symm, rfl⟩
  rw [decide_eq_false c3] at h3
  by_cases c4 : bl s = [46, 46]
  · have hv := hno false (by unfold nameB nameL; rw [decide_eq_true c4]; simp)
    rw [decide_eq_true c4] at h4
    clear hno hls c4 c3
    go_wp2_with fail
    go_ret
    exact ⟨ret_bool hv.out.symm, rfl⟩
  rw [decide_eq_false c4] at h4
  have HV : Hid (nameB s = (bl s).all vchB) := by
    show _ = _
    unfold nameB nameL
    rw [decide_eq_true (p := 1 ≤ (bl s).length) (by omega), decide_eq_true (p := (bl s).length ≤ 24) (by omega), decide_eq_false c3, decide_eq_false c4]
    simp
  have HLS := Lib.hid hls
  clear hno c3 c4 hls
  go_wp2_with fail
  go_loop [3] (fun i => ∃ k : Nat, k ≤ s.size ∧ i = .int .i64 k ∧ Hid (AllTo (bl s) k)) (fun i => s.size - (intOf i).toNat)
  case atStart => exact ⟨0, Nat.zero_le _, rfl, fun j c h => absurd h (by omega)⟩
  case round =>
    obtain ⟨k, hk, rfl, hA⟩ := hrel
    by_cases hlt : k < s.size
    · have hkz : (k : Int) < (s.size : Int) := by omega
      have HG := Lib.hid (get_data s k hlt)
      have HT : Hid (vchI (s[k].toNat : Int) = true → AllTo (bl s) (k + 1)) := fun hv => hA.out.step HG.out hv
      have HF : Hid (vchI (s[k].toNat : Int) = false → nameB s = false) := fun hv => by
        rw [HV.out, List.all_eq_false]
        exact ⟨s[k], List.mem_of_getElem? HG.out, by unfold vchB; rw [hv]; simp⟩
      clear hA h3 h4
      by_cases h46 : (s[k].toNat : Int) = 46
      · have t46 := beq_of h46
        go_wp2
        all_goals first
          | (go_ret; exact ⟨ret_bool (HF.out (vch_no (by omega) (by omega) (by omega) (by omega) (by omega) (by omega))).symm, rfl⟩)
          | (go_round
             case rel => exact ⟨k + 1, hlt, by go_num, HT.out (vch_yes (by first | omega | (simp at *; omega)))⟩
             case measure => simp [intOf]; omega)
      · have t46 := beq_no h46
        by_cases h95 : (s[k].toNat : Int) = 95
        · have t95 := beq_of h95
          go_wp2
          all_goals first
            | (go_ret; exact ⟨ret_bool (HF.out (vch_no (by omega) (by omega) (by omega) (by omega) (by omega) (by omega))).symm, rfl⟩)
            | (go_round
               case rel => exact ⟨k + 1, hlt, by go_num, HT.out (vch_yes (by first | omega | (simp at *; omega)))⟩
               case measure => simp [intOf]; omega)
        · have t95 := beq_no h95
          by_cases h45 : (s[k].toNat : Int) = 45
          · have t45 := beq_of h45
            go_wp2
            all_goals first
              | (go_ret; exact ⟨ret_bool (HF.out (vch_no (by omega) (by omega) (by omega) (by omega) (by omega) (by omega))).symm, rfl⟩)
              | (go_round
                 case rel => exact ⟨k + 1, hlt, by go_num, HT.out (vch_yes (by first | omega | (simp at *; omega)))⟩
                 case measure => simp [intOf]; omega)
          · have t45 := beq_no h45
            go_wp2
            all_goals first
              | (go_ret; refine ⟨ret_bool (HF.out (vch_no ?_ ?_ ?_ h46 h95 h45)).symm, rfl⟩ <;> omega)
              | (go_round
                 case rel => exact ⟨k + 1, hlt, by go_num, HT.out (vch_yes (by first | omega | (simp at *; omega)))⟩
                 case measure => simp [intOf]; omega)
    · have hkz : ¬ (k : Int) < (s.size : Int) := by omega
      have HT : Hid (nameB s = true) := by
        show _ = _
        rw [HV.out]
        refine AllTo.all ?_
        have := hA.out
        rwa [show k = (bl s).length from by rw [HLS.out]; omega] at this
      clear hA
      go_wp2_with fail
      go_ret
      exact ⟨ret_bool HT.out.symm, rfl⟩
end Go.Proofs.YtmdhlkkekidknaaGreatDoor

namespace Go.Proofs.YtmdhlkkekidknaaGreatDoor
open Go.RowKit

set_option maxHeartbeats 400000 in
theorem zero7_any (d : Dig) (w : World) : Calls Tryz.prog 201 #[digV d] w fun e w' => e = .returned (.bool (decide (d = zD))) ∧ Below w.heap.size w w' := by
  obtain ⟨a, b⟩ := d
  have hde := dig_eq (a, b) zD
  simp only [zD] at hde
  have HB0 : Hid (Below w.heap.size w (w.alloc (.cells #[.int .u64 a, .int .u64 b] 30))) := (Below.refl _ w).alloc (Nat.le_refl _) _
  have hk : Bk (w.alloc (.cells #[.int .u64 a, .int .u64 b] 30)) w.heap.size 30 #[.int .u64 a, .int .u64 b] := Bk.new w _ _
  obtain ⟨x0, x1, _, _⟩ := hk.two
  clear hk
  unfold digV
  simp only
  have HD : Hid (decide ((a, b) = zD) = (a == 0 && b == 0)) := hde.symm
  clear hde
  cases h0 : (a == 0) with
  | false =>
    have HF : Hid (decide ((a, b) = zD) = false) := by show _ = _; rw [HD.out, h0]; rfl
    go_enter Tryz.func201, Tryz.ntmps201
    go_wp2_with fail
    go_ret
    exact ⟨ret_bool HF.out.symm, HB0.out⟩
  | true =>
    cases h1 : (b == 0) with
    | false =>
      have HF : Hid (decide ((a, b) = zD) = false) := by show _ = _; rw [HD.out, h0, h1]; rfl
      go_enter Tryz.func201, Tryz.ntmps201
      go_wp2_with fail
      go_ret
      exact ⟨ret_bool HF.out.symm, HB0.out⟩
    | true =>
      have HF : Hid (decide ((a, b) = zD) = true) := by show _ = _; rw [HD.out, h0, h1]; rfl
      go_enter Tryz.func201, Tryz.ntmps201
      go_wp2_with fail
      go_ret
      exact ⟨ret_bool HF.out.symm, HB0.out⟩
structure UpE (l : List Ent) (k : Nat) : Prop where
  all : ∀ e ∈ l.take k, OkEnt e
  asc : ∀ (j : Nat) a b, j + 1 < k → l[j]? = some a → l[j + 1]? = some b → less a.nm b.nm = true
theorem UpE.start (l : List Ent) : UpE l 0 := ⟨fun e h => by simp at h, fun j a b h => absurd h (by omega)⟩
theorem UpE.step {l : List Ent} {k : Nat} {x : Ent} (h : UpE l k) (hx : l[k]? = some x) (hok : OkEnt x) (hl : ∀ j a, k = j + 1 → l[j]? = some a → less a.nm x.nm = true) : UpE l (k + 1) := by
  refine ⟨fun e he => ?_, fun j a b hj ha hb => ?_⟩
  · rw [take_snoc hx] at he
    rcases List.mem_append.1 he with he | he
    · exact h.all e he
    · rw [List.mem_singleton.1 he]; exact hok
  · by_cases e : j + 1 = k
    · subst e; rw [hx] at hb; cases hb; exact hl j a rfl ha
    · exact h.asc j a b (by omega) ha hb
def ChE (p : Prop) (w : World) (e : Ending) (w' : World) : Prop := ∃ z : Int, e = .returned (.int .i64 z) ∧ (z = 0 ↔ p) ∧ Below w.heap.size w w'
theorem ChE.no {p : Prop} {w w' : World} {z : Int} (hz : z ≠ 0) (hp : ¬ p) (hb : Below w.heap.size w w') : ChE p w (.returned (.int .i64 z)) w' := ⟨z, rfl, ⟨fun e => absurd e hz, fun h => absurd h hp⟩, hb⟩
theorem ChE.yes {p : Prop} {w w' : World} (hp : p) (hb : Below w.heap.size w w') : ChE p w (.returned (.int .i64 0)) w' := ⟨0, rfl, ⟨fun _ => hp, fun _ => rfl⟩, hb⟩
set_option maxRecDepth 100000 in
set_option maxHeartbeats 4000000 in
theorem rentries7_any (A : Option Addr) (n c B : Nat) (l : List Ent) (w : World) (h0 : Sl w B 4 A n (flat enC l)) (hB : B ≤ w.heap.size) (hn : n ≤ maxLen) (hsz : ∀ e ∈ l, e.nm.size ≤ 1000000) (hwf : ∀ e ∈ l, WfD e.dg) :
    Calls Tryz.prog 168 #[.slice A n c] w (ChE (OkEs l) w) := by
  unfold maxLen at hn
  have HL := Lib.hid (h0.len enC_len (by omega))
  have H0 := Lib.hid h0; have HSZ := Lib.hid hsz; have HWF := Lib.hid hwf
  clear h0 hsz hwf
  go_enter Tryz.func168, Tryz.ntmps168
  by_cases hbig : 200 < n
  · have hnz : (200 : Int) < (n : Int) := by omega
    have HN : Hid (¬ OkEs l) := fun h => by have := h.few; have := HL.out; omega
    clear hbig
    go_wp2_with fail
    go_ret
    exact ChE.no (by decide) HN.out (Below.refl _ _)
  have hnz : ¬ (200 : Int) < (n : Int) := by omega
  go_wp2_with fail
  go_loopw [3] (fun i wr => ∃ k : Nat, i = .int .i64 (k : Int) ∧ k ≤ n ∧ Hid (UpE l k) ∧ Hid (Below w.heap.size w wr)) (fun i _ => n - (intOf i).toNat)
  case atStart => exact ⟨0, rfl, Nat.zero_le _, UpE.start l, Below.refl _ _⟩
  case round =>
    obtain ⟨k, rfl, hk, hU, hbw⟩ := hrel
    have zwr := hbw.out.size
    by_cases hlt : k < n
    · have hlz : (k : Int) < (n : Int) := by omega
      obtain ⟨bb, off, en, rfl, hbB, he, y0, y1, y2, y3⟩ := (H0.out.below hbw.out hB).en hlt
      have HE := Lib.hid he
      have HM := Lib.hid (List.mem_of_getElem? he)
      have hsn := HSZ.out en HM.out
      cases hnm : nameB en.nm with
      | false =>
        have HN : Hid (¬ OkEs l) := fun h => by have := (h.all en HM.out).nm; rw [hnm] at this; cases this
        obtain ⟨nm, dir, d1, d2⟩ := en
        simp only at hsn hnm y0 y1 y2 y3
        clear he
        go_wp2_with (first | (go_at_call 116; refine (vname7_any nm _ (by unfold maxLen; omega)).mono ?_; rintro e w1 ⟨rfl, rfl⟩; rw [hnm]))
        go_ret
        exact ChE.no (by decide) HN.out hbw.out
      | true =>
        have HNX : Hid (∀ j, k = j + 1 → ∃ p, l[j]? = some p ∧ wr.cell? ⟨bb, off + j * 4, none⟩ = some (.string p.nm)) := by
          intro j hj
          obtain ⟨bb', off', p, hpe, _, hp, z0, _⟩ := (H0.out.below hbw.out hB).en (k := j) (by omega)
          cases hpe
          exact ⟨p, hp, z0⟩
        have HZ := Lib.hid (fun W => zero7_any en.dg W)
        have HNM := Lib.hid hnm
        have HEQ : Hid (∀ e2 : Ent, e2 = en → l[k]? = some e2) := fun e2 h => by rw [h]; exact HE.out
        obtain ⟨en', hen'⟩ : ∃ e, e = en := ⟨en, rfl⟩
        have HEN := Lib.hid hen'
        obtain ⟨nm, dir, d1, d2⟩ := en
        simp only at hsn hnm y0 y1 y2 y3 HZ HNM
        unfold digV at HZ
        clear he hen'
        go_upto_region 8 with (first | (go_at_call 116; refine (vname7_any nm _ (by unfold maxLen; omega)).mono ?_; rintro e w1 ⟨rfl, rfl⟩; rw [hnm]))
        cases k with
        | zero =>
          have HOR : Hid (∀ j a, (0 : Nat) = j + 1 → l[j]? = some a → less a.nm nm = true) := fun j a h => by omega
          go_quiet (fail)
          go_wp2_with (first | (go_at_call 201; refine (HZ.out _).mono ?_; rintro e w3 ⟨rfl, hb3⟩; refine halt_ ?_))
          refine unhalt ?_
          have HB3 := Lib.hid ((below_drewN hbw.out _).trans (hb3.mono (by have := hbw.out.size; simp; omega)))
          clear hb3
          cases hz : decide (((d1, d2) : Dig) = zD) with
          | true =>
            have HN : Hid (¬ OkEs l) := fun h => (h.all _ HM.out).nz (of_decide_eq_true hz)
            clear hz
            go_wp2_with fail
            go_ret
            exact ChE.no (by decide) HN.out HB3.out
          | false =>
            have HU2 : Hid (UpE l (0 + 1)) := hU.out.step HE.out ⟨HNM.out, HWF.out _ HM.out, of_decide_eq_false hz⟩ HOR.out
            clear hz
            go_wp2_with fail
            go_roundw
            case rel => exact ⟨0 + 1, by go_num, hlt, HU2.out, HB3.out⟩
            case measure => simp [intOf]; omega
        | succ j =>
          obtain ⟨p, HPJ, z0⟩ := HNX.out j rfl
          have HPJ := Lib.hid HPJ
          have hkp : (0 : Int) < ((j + 1 : Nat) : Int) := by omega
          have hw1 : IntKind.i64.wrap (((j + 1 : Nat) : Int) - 1) = (j : Int) := by rw [wrap_sm (by omega) (by omega)]; omega
          have hj1 : ¬ (j : Int) < 0 := by omega
          have hj2 : (j : Int) < (n : Int) := by omega
          have hj3 : ¬ ((j + 1 : Nat) : Int) < 0 := by omega
          have l1 := less_str nm p.nm
          have l2 := less_str p.nm nm
          have l3 := str_dec nm p.nm
          have l4 := str_dec p.nm nm
          cases hls : less p.nm nm with
          | true =>
            have HOR : Hid (∀ i a, (j + 1 : Nat) = i + 1 → l[i]? = some a → less a.nm nm = true) := fun i a h ha => by
              obtain rfl : j = i := by omega
              rw [HPJ.out] at ha; cases ha; exact hls
            rw [lessB_asymm hls] at l1
            rw [hls] at l2
            rw [decide_eq_false (fun e => lessB_ne hls e.symm)] at l3
            rw [decide_eq_false (lessB_ne hls)] at l4
            clear hls
            go_quiet (fail)
            go_wp2_with (first | (go_at_call 201; refine (HZ.out _).mono ?_; rintro e w3 ⟨rfl, hb3⟩; refine halt_ ?_))
            refine unhalt ?_
            have HB3 := Lib.hid ((below_drewN hbw.out _).trans (hb3.mono (by have := hbw.out.size; simp; omega)))
            clear hb3
            cases hz : decide (((d1, d2) : Dig) = zD) with
            | true =>
              have HN : Hid (¬ OkEs l) := fun h => (h.all _ HM.out).nz (of_decide_eq_true hz)
              clear hz
              go_wp2_with fail
              go_ret
              exact ChE.no (by decide) HN.out HB3.out
            | false =>
              have HU2 : Hid (UpE l ((j + 1) + 1)) := hU.out.step HE.out ⟨HNM.out, HWF.out _ HM.out, of_decide_eq_false hz⟩ HOR.out
              clear hz
              go_wp2_with fail
              go_roundw
              case rel => exact ⟨(j + 1) + 1, by go_num, hlt, HU2.out, HB3.out⟩
              case measure => simp [intOf]; omega
          | false =>
            have HN : Hid (¬ OkEs l) := fun h => by
              have := h.asc j p _ HPJ.out HE.out; simp only at this; rw [hls] at this; cases this
            rw [hls] at l2
            cases hl2 : less nm p.nm with
            | true =>
              rw [hl2] at l1
              rw [decide_eq_false (lessB_ne hl2)] at l3
              rw [decide_eq_false (fun e => lessB_ne hl2 e.symm)] at l4
              clear hls hl2
              go_quiet (fail)
              go_wp2_with fail
              go_ret
              exact ChE.no (by decide) HN.out (below_drewN hbw.out _)
            | false =>
              have heq := lessB_conn hls hl2
              rw [hl2] at l1
              rw [decide_eq_true heq.symm] at l3
              rw [decide_eq_true heq] at l4
              clear hls hl2 heq
              go_quiet (fail)
              go_wp2_with fail
              go_ret
              exact ChE.no (by decide) HN.out (below_drewN hbw.out _)
    · have hlz : ¬ (k : Int) < (n : Int) := by omega
      have HOK : Hid (OkEs l) := ⟨by rw [HL.out]; omega, fun e he => hU.out.all e (by rw [List.take_of_length_le (by rw [HL.out]; omega)]; exact he), fun j a b ha hb => hU.out.asc j a b (by have := (List.getElem?_eq_some_iff.1 hb).1; have := HL.out; omega) ha hb⟩
      go_wp2_with fail
      go_ret
      exact ChE.yes HOK.out hbw.out
end Go.Proofs.YtmdhlkkekidknaaGreatDoor

namespace Go.Proofs.YtmdhlkkekidknaaGreatDoor
open Go.RowKit

structure UpP (l : List Dig) (k : Nat) : Prop where
  nz : ∀ d ∈ l.take k, d ≠ zD
  nod : (l.take k).Nodup
theorem UpP.start (l : List Dig) : UpP l 0 := ⟨fun e h => by simp at h, by simp⟩
theorem UpP.step {l : List Dig} {k : Nat} {x : Dig} (h : UpP l k) (hx : l[k]? = some x) (hz : x ≠ zD) (hn : x ∉ l.take k) : UpP l (k + 1) := by
  refine ⟨fun e he => ?_, ?_⟩
  · rw [take_snoc hx] at he
    rcases List.mem_append.1 he with he | he
    · exact h.nz e he
    · rw [List.mem_singleton.1 he]; exact hz
  · rw [take_snoc hx, List.nodup_append]
    exact ⟨h.nod, by simp, fun a ha b hb e => by rw [List.mem_singleton.1 hb] at e; exact hn (e ▸ ha)⟩
set_option maxRecDepth 100000 in
set_option maxHeartbeats 4000000 in
theorem rcommit7_any (o : Ob) (s : Osl) (B : Nat) (w : World) (hm : ObM w B o s) (hB : B ≤ w.heap.size) (hw : WfD o.tree) (hp : ∀ d ∈ o.pars, WfD d) (ha : o.auth.size ≤ 1000000) (hms : o.msg.size ≤ 1000000) (ht0 : 0 ≤ o.time) (ht1 : o.time ≤ 1099511627776) :
    Calls Tryz.prog 169 #[obV o s] w (ChE (OkC o) w) := by
  have HL := Lib.hid hm.plen
  have HP := Lib.hid hm.p
  have hpc := hm.ple; have hpm := hm.pmx
  have HOC : Hid (∀ o' : Ob, o' = o → (OkC o' ↔ OkC o)) := fun o' h => by rw [h]
  have HC0 : Hid (o.tree ≠ zD → OkPs o.pars → nameB o.auth = true → o.msg.size ≤ 200 → OkC o) := fun h1 h2 h3 h4 => ⟨hw, h1, h2, h3, ht0, ht1, h4⟩
  have HWP := Lib.hid hp
  have HZ := Lib.hid (fun W => zero7_any o.tree W)
  obtain ⟨kind, data, ents, ⟨t1, t2⟩, pars, auth, time, msg⟩ := o
  obtain ⟨eA, en, ec, pA, n, pc⟩ := s
  simp only at HL HP hpc hpm HC0 HWP HZ ha hms ht0 ht1
  unfold digV at HZ
  simp only [obV, obC]
  have hq1 : ¬ time < 0 := by omega
  have hq2 : ¬ (1099511627776 : Int) < time := by omega
  have hnm : n ≤ 9223372036854775807 := by unfold maxLen at hpm; omega
  obtain ⟨W0, hW⟩ : ∃ W, w.alloc (.cells #[.int .i64 kind, .string data, .slice eA en ec, .int .u64 t1, .int .u64 t2, .slice pA n pc, .string auth, .int .i64 time, .string msg] 82) = W := ⟨_, rfl⟩
  have HB0 : Hid (Below w.heap.size w W0) := by rw [← hW]; exact (Below.refl _ w).alloc (Nat.le_refl _) _
  have HK : Hid (Bk W0 w.heap.size 82 #[.int .i64 kind, .string data, .slice eA en ec, .int .u64 t1, .int .u64 t2, .slice pA n pc, .string auth, .int .i64 time, .string msg]) := by rw [← hW]; exact Bk.new w _ _
  have zk : w.heap.size < W0.heap.size := HK.out.lt
  obtain ⟨c0, c1, c2, c3, c4, c5, c6, c7, c8⟩ := HK.out.nine
  clear hm hp hw HOC ht0 ht1
  go_enter Tryz.func169, Tryz.ntmps169
  go_wp2_with (first | (go_at_call 201; refine (HZ.out _).mono ?_; rintro e w3 ⟨rfl, hb3⟩; refine halt_ ?_))
  refine unhalt ?_
  have HB3 := Lib.hid (HB0.out.trans (hb3.mono HB0.out.size))
  have HK3 := Lib.hid (HK.out.below hb3 zk)
  have z3 : w.heap.size < w3.heap.size := HK3.out.lt
  clear hb3 hW c0 c1 c2 c3 c4 c5 c6 c7 c8
  obtain ⟨c0, c1, c2, c3, c4, c5, c6, c7, c8⟩ := HK3.out.nine
  cases hz : decide (((t1, t2) : Dig) = zD) with
  | true =>
    have HN : Hid (¬ OkC ⟨kind, data, ents, (t1, t2), pars, auth, time, msg⟩) := fun h => h.nz (of_decide_eq_true hz)
    clear hz
    go_wp2_with fail
    go_ret
    exact ChE.no (by decide) HN.out HB3.out
  | false =>
  have HTZ : Hid ((t1, t2) ≠ zD) := of_decide_eq_false hz
  clear hz
  by_cases hbig : 8 < n
  · have hnz : (8 : Int) < (n : Int) := by omega
    have HN : Hid (¬ OkC ⟨kind, data, ents, (t1, t2), pars, auth, time, msg⟩) := fun h => by have := h.pars.few; have := HL.out; simp only at *; omega
    clear hbig
    go_wp2_with fail
    go_ret
    exact ChE.no (by decide) HN.out HB3.out
  have hnz : ¬ (8 : Int) < (n : Int) := by omega
  go_wp2_with fail
  go_loopw [3] (fun i wr => ∃ k : Nat, i = .int .i64 (k : Int) ∧ k ≤ n ∧ Hid (UpP pars k) ∧ Hid (Below w3.heap.size w3 wr)) (fun i _ => n - (intOf i).toNat)
  case atStart => exact ⟨0, rfl, Nat.zero_le _, UpP.start pars, Below.refl _ _⟩
  case round =>
    obtain ⟨k, rfl, hk, hU, hbw⟩ := hrel
    have HBw : Hid (Below w.heap.size w wr) := HB3.out.trans (hbw.out.mono HB3.out.size)
    have HKr := Lib.hid (HK3.out.below hbw.out z3)
    clear c0 c1 c2 c3 c4 c5 c6 c7 c8
    obtain ⟨c0, c1, c2, c3, c4, c5, c6, c7, c8⟩ := HKr.out.nine
    by_cases hlt : k < n
    · have hlz : (k : Int) < (n : Int) := by omega
      have hk0 : ¬ (k : Int) < 0 := by omega
      obtain ⟨bb, off, d, rfl, hbB, hd, y0, y1⟩ := (HP.out.below HBw.out hB).dg hlt
      have HD := Lib.hid hd
      have HZ2 := Lib.hid (fun W => zero7_any d W)
      obtain ⟨d1, d2⟩ := d
      simp only at y0 y1
      unfold digV at HZ2
      clear hd
      go_wp2_with (first | (go_at_call 201; refine (HZ2.out _).mono ?_; rintro e w6 ⟨rfl, hb3⟩; refine halt_ ?_))
      refine unhalt ?_
      have HB4 := Lib.hid (hbw.out.trans (hb3.mono hbw.out.size))
      clear hb3 c0 c1 c2 c3 c4 c5 c6 c7 c8 y0 y1
      cases hz : decide (((d1, d2) : Dig) = zD) with
      | true =>
        have HN : Hid (¬ OkC ⟨kind, data, ents, (t1, t2), pars, auth, time, msg⟩) := fun h => h.pars.nz _ (List.mem_of_getElem? HD.out) (of_decide_eq_true hz)
        clear hz
        go_wp2_with fail
        go_ret
        exact ChE.no (by decide) HN.out (HB3.out.trans (HB4.out.mono HB3.out.size))
      | false =>
      have HDZ : Hid ((d1, d2) ≠ zD) := of_decide_eq_false hz
      clear hz
      go_wp2_with fail
      have HK4 := Lib.hid (HK3.out.below HB4.out z3)
      have z4 : w.heap.size < w6.heap.size := HK4.out.lt
      have HBW4 : Hid (Below w.heap.size w w6) := HB3.out.trans (HB4.out.mono HB3.out.size)
      go_loopw [4] (fun i wr => ∃ j : Nat, i = .int .i64 (j : Int) ∧ j ≤ k ∧ Hid ((d1, d2) ∉ pars.take j) ∧ Hid (Below w6.heap.size w6 wr)) (fun i _ => k - (intOf i).toNat)
      case atStart => exact ⟨0, rfl, Nat.zero_le _, (fun h => by simp at h), Below.refl _ _⟩
      case round =>
        obtain ⟨j, rfl, hj, hN, hbr⟩ := hrel
        have HBr : Hid (Below w.heap.size w wr) := HBW4.out.trans (hbr.out.mono HBW4.out.size)
        have HB3r : Hid (Below w3.heap.size w3 wr) := HB4.out.trans (hbr.out.mono HB4.out.size)
        obtain ⟨c0, c1, c2, c3, c4, c5, c6, c7, c8⟩ := (HK4.out.below hbr.out z4).nine
        by_cases hjl : j < k
        · have hjz : (j : Int) < (k : Int) := by omega
          have hjn : (j : Int) < (n : Int) := by omega
          obtain ⟨bb', off', d', hpe, _, hd', y0, y1⟩ := (HP.out.below HBr.out hB).dg (k := j) (by omega)
          cases hpe
          obtain ⟨bb', off', d3, hpe, _, hd3, u0, u1⟩ := (HP.out.below HBr.out hB).dg (k := k) hlt
          cases hpe
          have hdd : d3 = (d1, d2) := by rw [HD.out] at hd3; exact (Option.some.inj hd3).symm
          subst hdd
          have HD' := Lib.hid hd'
          have hde := dig_eq d' (d1, d2)
          simp only at u0 u1 hde
          clear hd' hd3
          by_cases e : d' = (d1, d2)
          · rw [decide_eq_true e] at hde
            have HN2 : Hid (¬ OkC ⟨kind, data, ents, (t1, t2), pars, auth, time, msg⟩) := fun h => by
              have h1 := List.getElem?_eq_some_iff.1 HD'.out
              have h2 := List.getElem?_eq_some_iff.1 HD.out
              have := (List.getElem_inj (h₀ := h1.1) (h₁ := h2.1) h.pars.nod).1 (by rw [h1.2, h2.2, e])
              omega
            clear e
            obtain ⟨e1, e2⟩ := d'
            simp only at y0 y1 hde
            go_wp2_with fail
            go_quiet (fail)
            go_wp2_with fail
            go_ret
            exact ChE.no (by decide) HN2.out (below_drewN HBr.out _)
          · rw [decide_eq_false e] at hde
            have HN2 : Hid ((d1, d2) ∉ pars.take (j + 1)) := fun hm => by
              rw [take_snoc HD'.out] at hm
              rcases List.mem_append.1 hm with hm | hm
              · exact hN.out hm
              · exact e (List.mem_singleton.1 hm).symm
            clear e
            obtain ⟨e1, e2⟩ := d'
            simp only at y0 y1 hde
            go_wp2_with fail
            go_quiet (fail)
            go_wp2_with fail
            go_roundw
            case rel => exact ⟨j + 1, by go_num, hjl, HN2.out, below_drewN hbr.out _⟩
            case measure => simp [intOf]; omega
        · have hjz : ¬ (j : Int) < (k : Int) := by omega
          have hjk : j = k := by omega
          subst hjk
          have HU2 := Lib.hid (hU.out.step HD.out HDZ.out hN.out)
          go_wp2_with fail
          go_roundw
          case rel => exact ⟨j + 1, by go_num, hlt, HU2.out, HB3r.out⟩
          case measure => simp [intOf]; omega
    · have hlz : ¬ (k : Int) < (n : Int) := by omega
      have HPS : Hid (OkPs pars) := by
        have h1 := hU.out
        have e : pars.take k = pars := List.take_of_length_le (by rw [HL.out]; omega)
        exact ⟨by rw [HL.out]; omega, HWP.out, fun d hd => h1.nz d (by rw [e]; exact hd), by have := h1.nod; rwa [e] at this⟩
      cases hnm2 : nameB auth with
      | false =>
        have HN : Hid (¬ OkC ⟨kind, data, ents, (t1, t2), pars, auth, time, msg⟩) := fun h => by have := h.auth; simp only at this; rw [hnm2] at this; cases this
        go_wp2_with (first | (go_at_call 116; refine (vname7_any auth _ (by unfold maxLen; omega)).mono ?_; rintro e w1 ⟨rfl, rfl⟩; rw [hnm2]))
        go_ret
        exact ChE.no (by decide) HN.out HBw.out
      | true =>
        have HNA := Lib.hid hnm2
        by_cases hml : 200 < msg.size
        · have hmz : (200 : Int) < (msg.size : Int) := by omega
          have HN : Hid (¬ OkC ⟨kind, data, ents, (t1, t2), pars, auth, time, msg⟩) := fun h => by have := h.msg; simp only at this; omega
          clear hml
          go_wp2_with (first | (go_at_call 116; refine (vname7_any auth _ (by unfold maxLen; omega)).mono ?_; rintro e w1 ⟨rfl, rfl⟩; rw [hnm2]))
          go_ret
          exact ChE.no (by decide) HN.out HBw.out
        · have hmz : ¬ (200 : Int) < (msg.size : Int) := by omega
          have HY := Lib.hid (HC0.out HTZ.out HPS.out HNA.out (by omega))
          clear hml
          go_wp2_with (first | (go_at_call 116; refine (vname7_any auth _ (by unfold maxLen; omega)).mono ?_; rintro e w1 ⟨rfl, rfl⟩; rw [hnm2]))
          go_ret
          exact ChE.yes HY.out HBw.out
end Go.Proofs.YtmdhlkkekidknaaGreatDoor

namespace Go.Proofs.YtmdhlkkekidknaaGreatDoor
open Go.RowKit

structure OnlyP (o : Ob) : Prop where
  d : o.kind = 2 ∨ o.kind = 3 → o.data = ⟨#[]⟩
  e : o.kind ≠ 2 → o.ents = []
  c : o.kind = 3 ∨ NoC o
theorem OkF.only {o : Ob} (h : OkF o) : OnlyP o := by
  cases h with
  | blob k e c d => exact ⟨fun h => by omega, fun _ => e, .inr c⟩
  | tree k d c e => exact ⟨fun _ => d, fun h => absurd k h, .inr c⟩
  | commit k d e c => exact ⟨fun _ => d, fun _ => e, .inl k⟩
theorem OkF.of2 {o : Ob} (h : OnlyP o) (k : o.kind = 2) : OkF o ↔ OkEs o.ents := by
  refine ⟨fun g => ?_, fun g => .tree k (h.d (.inl k)) ?_ g⟩
  · cases g with
    | blob k' => omega
    | tree _ _ _ e => exact e
    | commit k' => omega
  · rcases h.c with h | h
    · omega
    · exact h
theorem OkF.of3 {o : Ob} (h : OnlyP o) (k : o.kind = 3) : OkF o ↔ OkC o := by
  refine ⟨fun g => ?_, fun g => .commit k (h.d (.inr k)) (h.e (by omega)) g⟩
  cases g with
  | blob k' => omega
  | tree k' => omega
  | commit _ _ _ c => exact c
theorem OkF.of14 {o : Ob} (h : OnlyP o) (k : o.kind = 1 ∨ o.kind = 4) : OkF o ↔ o.data.size ≤ 65536 := by
  refine ⟨fun g => ?_, fun g => .blob k (h.e (by omega)) ?_ g⟩
  · cases g with
    | blob _ _ _ d => exact d
    | tree k' => omega
    | commit k' => omega
  · rcases h.c with h | h
    · omega
    · exact h
def OnlE (o : Ob) (w : World) (e : Ending) (w' : World) : Prop := ∃ b : Bool, e = .returned (.bool b) ∧ (b = true ↔ OnlyP o) ∧ Below w.heap.size w w'
theorem OnlE.no {o : Ob} {w w' : World} (h : ¬ OnlyP o) (hb : Below w.heap.size w w') : OnlE o w (.returned (.bool false)) w' := ⟨false, rfl, ⟨(fun e => by cases e), fun g => absurd g h⟩, hb⟩
theorem OnlE.yes {o : Ob} {w w' : World} (h : OnlyP o) (hb : Below w.heap.size w w') : OnlE o w (.returned (.bool true)) w' := ⟨true, rfl, ⟨fun _ => h, fun _ => rfl⟩, hb⟩
set_option maxRecDepth 100000 in
set_option maxHeartbeats 8000000 in
theorem only7_any (o : Ob) (s : Osl) (B : Nat) (w : World) (hm : ObM w B o s) : Calls Tryz.prog 167 #[obV o s] w (OnlE o w) := by
  have hel := hm.elen; have hpl := hm.plen
  have HZ := Lib.hid (fun W => zero7_any o.tree W)
  obtain ⟨kind, data, ents, ⟨t1, t2⟩, pars, auth, time, msg⟩ := o
  obtain ⟨eA, en, ec, pA, n, pc⟩ := s
  simp only at hel hpl HZ
  unfold digV at HZ
  simp only [obV, obC]
  obtain ⟨W0, hW⟩ : ∃ W, w.alloc (.cells #[.int .i64 kind, .string data, .slice eA en ec, .int .u64 t1, .int .u64 t2, .slice pA n pc, .string auth, .int .i64 time, .string msg] 82) = W := ⟨_, rfl⟩
  have HB0 : Hid (Below w.heap.size w W0) := by rw [← hW]; exact (Below.refl _ w).alloc (Nat.le_refl _) _
  have HK : Hid (Bk W0 w.heap.size 82 #[.int .i64 kind, .string data, .slice eA en ec, .int .u64 t1, .int .u64 t2, .slice pA n pc, .string auth, .int .i64 time, .string msg]) := by rw [← hW]; exact Bk.new w _ _
  have zk : w.heap.size < W0.heap.size := HK.out.lt
  obtain ⟨c0, c1, c2, c3, c4, c5, c6, c7, c8⟩ := HK.out.nine
  have HEL : Hid (ents.length = en) := hel
  have HPL : Hid (pars.length = n) := hpl
  have hd : (data.toList == []) = decide (data = ⟨#[]⟩) := str_lit data _
  have hau : (auth.toList == []) = decide (auth = ⟨#[]⟩) := str_lit auth _
  have hmg : (msg.toList == []) = decide (msg = ⟨#[]⟩) := str_lit msg _
  clear hm hel hpl
  by_cases k2 : kind = 2
  · have q2 : (kind == 2) = true := by simp [k2]
    have q2n : (kind != 2) = false := by simp [k2]
    have q3 : (kind == 3) = false := by simp [k2]
    by_cases hdz : data = ⟨#[]⟩
    · rw [decide_eq_true hdz] at hd
      have HP1 : Hid (NoC ⟨kind, data, ents, (t1, t2), pars, auth, time, msg⟩ → OnlyP ⟨kind, data, ents, (t1, t2), pars, auth, time, msg⟩) := fun h => ⟨fun _ => hdz, fun h' => absurd k2 h', .inr h⟩
      have HP2 : Hid (OnlyP ⟨kind, data, ents, (t1, t2), pars, auth, time, msg⟩ → NoC ⟨kind, data, ents, (t1, t2), pars, auth, time, msg⟩) := fun h => by
        rcases h.c with h | h
        · simp only at h; omega
        · exact h
      clear hdz k2
      go_enter Tryz.func167, Tryz.ntmps167
      cases hz : decide (((t1, t2) : Dig) = zD) with
      | false =>
        have HF : Hid (¬ OnlyP ⟨kind, data, ents, (t1, t2), pars, auth, time, msg⟩) := fun h => of_decide_eq_false hz (HP2.out h).tree
        go_wp2_with (first | (go_at_call 201; refine (HZ.out _).mono ?_; rintro e w3 ⟨rfl, hb3⟩; rw [hz]; refine halt_ ?_))
        refine unhalt ?_
        have HB3 := Lib.hid (HB0.out.trans (hb3.mono HB0.out.size))
        have HK3 := Lib.hid (HK.out.below hb3 zk)
        clear hb3 hW c0 c1 c2 c3 c4 c5 c6 c7 c8
        obtain ⟨c0, c1, c2, c3, c4, c5, c6, c7, c8⟩ := HK3.out.nine
        go_wp2_with fail
        go_ret
        exact OnlE.no HF.out HB3.out
      | true =>
      have HTZ : Hid (((t1, t2) : Dig) = zD) := Lib.hid (of_decide_eq_true hz)
      go_wp2_with (first | (go_at_call 201; refine (HZ.out _).mono ?_; rintro e w3 ⟨rfl, hb3⟩; rw [hz]; refine halt_ ?_))
      refine unhalt ?_
      have HB3 := Lib.hid (HB0.out.trans (hb3.mono HB0.out.size))
      have HK3 := Lib.hid (HK.out.below hb3 zk)
      clear hb3 hW c0 c1 c2 c3 c4 c5 c6 c7 c8
      obtain ⟨c0, c1, c2, c3, c4, c5, c6, c7, c8⟩ := HK3.out.nine
      by_cases hn0 : n = 0
      case neg =>
        have HF : Hid (¬ OnlyP ⟨kind, data, ents, (t1, t2), pars, auth, time, msg⟩) := fun h => by have := (HP2.out h).pars; simp only at this; have h2 := HPL.out; rw [this] at h2; exact hn0 h2.symm
        have hnq : ((n : Int) == 0) = false := by rw [beq_eq_false_iff_ne]; omega
        clear hn0
        go_wp2_with fail
        go_ret
        exact OnlE.no HF.out HB3.out
      subst hn0
      by_cases haz : auth = ⟨#[]⟩
      case neg =>
        have HF : Hid (¬ OnlyP ⟨kind, data, ents, (t1, t2), pars, auth, time, msg⟩) := fun h => haz (HP2.out h).auth
        rw [decide_eq_false haz] at hau
        clear haz
        go_wp2_with fail
        go_ret
        exact OnlE.no HF.out HB3.out
      rw [decide_eq_true haz] at hau
      have HAZ := Lib.hid haz
      clear haz
      by_cases htz : time = 0
      case neg =>
        have HF : Hid (¬ OnlyP ⟨kind, data, ents, (t1, t2), pars, auth, time, msg⟩) := fun h => htz (HP2.out h).time
        have htq : (time == 0) = false := by rw [beq_eq_false_iff_ne]; exact htz
        clear htz
        go_wp2_with fail
        go_ret
        exact OnlE.no HF.out HB3.out
      have htq : (time == 0) = true := by simp [htz]
      have HTM := Lib.hid htz
      clear htz
      by_cases hmz : msg = ⟨#[]⟩
      case neg =>
        have HF : Hid (¬ OnlyP ⟨kind, data, ents, (t1, t2), pars, auth, time, msg⟩) := fun h => hmz (HP2.out h).msg
        rw [decide_eq_false hmz] at hmg
        clear hmz
        go_wp2_with fail
        go_ret
        exact OnlE.no HF.out HB3.out
      rw [decide_eq_true hmz] at hmg
      have HT : Hid (OnlyP ⟨kind, data, ents, (t1, t2), pars, auth, time, msg⟩) := HP1.out ⟨HTZ.out, List.eq_nil_of_length_eq_zero HPL.out, HAZ.out, HTM.out, hmz⟩
      clear hmz
      go_wp2_with fail
      go_ret
      exact OnlE.yes HT.out HB3.out
    · have HF : Hid (¬ OnlyP ⟨kind, data, ents, (t1, t2), pars, auth, time, msg⟩) := fun h => hdz (h.d (.inl k2))
      rw [decide_eq_false hdz] at hd
      clear hdz k2
      go_enter Tryz.func167, Tryz.ntmps167
      go_wp2_with fail
      go_ret
      exact OnlE.no HF.out HB0.out
  · have q2 : (kind == 2) = false := by simp [k2]
    have q2n : (kind != 2) = true := by simp [k2]
    by_cases hez : en = 0
    · subst hez
      have HEZ : Hid (ents = []) := List.eq_nil_of_length_eq_zero HEL.out
      by_cases k3 : kind = 3
      · have q3 : (kind == 3) = true := by simp [k3]
        by_cases hdz : data = ⟨#[]⟩
        · rw [decide_eq_true hdz] at hd
          have HT : Hid (OnlyP ⟨kind, data, ents, (t1, t2), pars, auth, time, msg⟩) := ⟨fun _ => hdz, fun _ => HEZ.out, .inl k3⟩
          clear hdz k2 k3
          go_enter Tryz.func167, Tryz.ntmps167
          go_wp2_with fail
          go_ret
          exact OnlE.yes HT.out HB0.out
        · have HF : Hid (¬ OnlyP ⟨kind, data, ents, (t1, t2), pars, auth, time, msg⟩) := fun h => hdz (h.d (.inr k3))
          rw [decide_eq_false hdz] at hd
          clear hdz k2 k3
          go_enter Tryz.func167, Tryz.ntmps167
          go_wp2_with fail
          go_ret
          exact OnlE.no HF.out HB0.out
      · have q3 : (kind == 3) = false := by simp [k3]
        have HP1 : Hid (NoC ⟨kind, data, ents, (t1, t2), pars, auth, time, msg⟩ → OnlyP ⟨kind, data, ents, (t1, t2), pars, auth, time, msg⟩) := fun h => ⟨fun h' => by simp only at h'; omega, fun _ => HEZ.out, .inr h⟩
        have HP2 : Hid (OnlyP ⟨kind, data, ents, (t1, t2), pars, auth, time, msg⟩ → NoC ⟨kind, data, ents, (t1, t2), pars, auth, time, msg⟩) := fun h => by
          rcases h.c with h | h
          · exact absurd h k3
          · exact h
        clear k2 k3 hd
        go_enter Tryz.func167, Tryz.ntmps167
        cases hz : decide (((t1, t2) : Dig) = zD) with
        | false =>
          have HF : Hid (¬ OnlyP ⟨kind, data, ents, (t1, t2), pars, auth, time, msg⟩) := fun h => of_decide_eq_false hz (HP2.out h).tree
          go_wp2_with (first | (go_at_call 201; refine (HZ.out _).mono ?_; rintro e w3 ⟨rfl, hb3⟩; rw [hz]; refine halt_ ?_))
          refine unhalt ?_
          have HB3 := Lib.hid (HB0.out.trans (hb3.mono HB0.out.size))
          have HK3 := Lib.hid (HK.out.below hb3 zk)
          clear hb3 hW c0 c1 c2 c3 c4 c5 c6 c7 c8
          obtain ⟨c0, c1, c2, c3, c4, c5, c6, c7, c8⟩ := HK3.out.nine
          go_wp2_with fail
          go_ret
          exact OnlE.no HF.out HB3.out
        | true =>
        have HTZ : Hid (((t1, t2) : Dig) = zD) := Lib.hid (of_decide_eq_true hz)
        go_wp2_with (first | (go_at_call 201; refine (HZ.out _).mono ?_; rintro e w3 ⟨rfl, hb3⟩; rw [hz]; refine halt_ ?_))
        refine unhalt ?_
        have HB3 := Lib.hid (HB0.out.trans (hb3.mono HB0.out.size))
        have HK3 := Lib.hid (HK.out.below hb3 zk)
        clear hb3 hW c0 c1 c2 c3 c4 c5 c6 c7 c8
        obtain ⟨c0, c1, c2, c3, c4, c5, c6, c7, c8⟩ := HK3.out.nine
        by_cases hn0 : n = 0
        case neg =>
          have HF : Hid (¬ OnlyP ⟨kind, data, ents, (t1, t2), pars, auth, time, msg⟩) := fun h => by have := (HP2.out h).pars; simp only at this; have h2 := HPL.out; rw [this] at h2; exact hn0 h2.symm
          have hnq : ((n : Int) == 0) = false := by rw [beq_eq_false_iff_ne]; omega
          clear hn0
          go_wp2_with fail
          go_ret
          exact OnlE.no HF.out HB3.out
        subst hn0
        by_cases haz : auth = ⟨#[]⟩
        case neg =>
          have HF : Hid (¬ OnlyP ⟨kind, data, ents, (t1, t2), pars, auth, time, msg⟩) := fun h => haz (HP2.out h).auth
          rw [decide_eq_false haz] at hau
          clear haz
          go_wp2_with fail
          go_ret
          exact OnlE.no HF.out HB3.out
        rw [decide_eq_true haz] at hau
        have HAZ := Lib.hid haz
        clear haz
        by_cases htz : time = 0
        case neg =>
          have HF : Hid (¬ OnlyP ⟨kind, data, ents, (t1, t2), pars, auth, time, msg⟩) := fun h => htz (HP2.out h).time
          have htq : (time == 0) = false := by rw [beq_eq_false_iff_ne]; exact htz
          clear htz
          go_wp2_with fail
          go_ret
          exact OnlE.no HF.out HB3.out
        have htq : (time == 0) = true := by simp [htz]
        have HTM := Lib.hid htz
        clear htz
        by_cases hmz : msg = ⟨#[]⟩
        case neg =>
          have HF : Hid (¬ OnlyP ⟨kind, data, ents, (t1, t2), pars, auth, time, msg⟩) := fun h => hmz (HP2.out h).msg
          rw [decide_eq_false hmz] at hmg
          clear hmz
          go_wp2_with fail
          go_ret
          exact OnlE.no HF.out HB3.out
        rw [decide_eq_true hmz] at hmg
        have HT : Hid (OnlyP ⟨kind, data, ents, (t1, t2), pars, auth, time, msg⟩) := HP1.out ⟨HTZ.out, List.eq_nil_of_length_eq_zero HPL.out, HAZ.out, HTM.out, hmz⟩
        clear hmz
        go_wp2_with fail
        go_ret
        exact OnlE.yes HT.out HB3.out
    · have hen : (0 : Int) < (en : Int) := by omega
      have HF : Hid (¬ OnlyP ⟨kind, data, ents, (t1, t2), pars, auth, time, msg⟩) := fun h => by have := h.e k2; simp only at this; have h2 := HEL.out; rw [this] at h2; exact hez h2.symm
      clear hez k2
      by_cases k3 : kind = 3
      · have q3 : (kind == 3) = true := by simp [k3]
        clear k3
        by_cases hdz : data = ⟨#[]⟩
        · rw [decide_eq_true hdz] at hd
          clear hdz
          go_enter Tryz.func167, Tryz.ntmps167
          go_wp2_with fail
          go_ret
          exact OnlE.no HF.out HB0.out
        · rw [decide_eq_false hdz] at hd
          clear hdz
          go_enter Tryz.func167, Tryz.ntmps167
          go_wp2_with fail
          go_ret
          exact OnlE.no HF.out HB0.out
      · have q3 : (kind == 3) = false := by simp [k3]
        clear k3 hd
        go_enter Tryz.func167, Tryz.ntmps167
        go_wp2_with fail
        go_ret
        exact OnlE.no HF.out HB0.out
set_option maxRecDepth 100000 in
set_option maxHeartbeats 4000000 in
theorem fields7_any (o : Ob) (s : Osl) (B : Nat) (w : World) (hm : ObM w B o s) (hB : B ≤ w.heap.size) (hw : WfD o.tree) (hp : ∀ d ∈ o.pars, WfD d) (ha : o.auth.size ≤ 1000000) (hms : o.msg.size ≤ 1000000) (ht0 : 0 ≤ o.time) (ht1 : o.time ≤ 1099511627776)
    (hes : ∀ e ∈ o.ents, e.nm.size ≤ 1000000) (hew : ∀ e ∈ o.ents, WfD e.dg) :
    Calls Tryz.prog 121 #[obV o s] w (ChE (OkF o) w) := by
  have HM := Lib.hid hm
  have HO := Lib.hid (fun W => only7_any o s B W)
  have HC := Lib.hid (fun W h hb => rcommit7_any o s B W h hb hw hp ha hms ht0 ht1)
  have HE := Lib.hid (fun W (h : ObM W B o s) hb => rentries7_any s.eA s.en s.ec B o.ents W h.e hb (Nat.le_trans h.ele h.emx) hes hew)
  have HF2 := Lib.hid (fun h k => OkF.of2 (o := o) h k)
  have HF3 := Lib.hid (fun h k => OkF.of3 (o := o) h k)
  have HF1 := Lib.hid (fun h k => OkF.of14 (o := o) h k)
  have HKL := Lib.hid (fun h => OkF.kind_le (o := o) h)
  have HON := Lib.hid (fun h => OkF.only (o := o) h)
  obtain ⟨kind, data, ents, ⟨t1, t2⟩, pars, auth, time, msg⟩ := o
  obtain ⟨eA, en, ec, pA, n, pc⟩ := s
  simp only [obV, obC] at HO HC HE ⊢
  simp only at HF1 HF2 HF3 HKL
  obtain ⟨W0, hW⟩ : ∃ W, w.alloc (.cells #[.int .i64 kind, .string data, .slice eA en ec, .int .u64 t1, .int .u64 t2, .slice pA n pc, .string auth, .int .i64 time, .string msg] 82) = W := ⟨_, rfl⟩
  have HB0 : Hid (Below w.heap.size w W0) := by rw [← hW]; exact (Below.refl _ w).alloc (Nat.le_refl _) _
  have HK : Hid (Bk W0 w.heap.size 82 #[.int .i64 kind, .string data, .slice eA en ec, .int .u64 t1, .int .u64 t2, .slice pA n pc, .string auth, .int .i64 time, .string msg]) := by rw [← hW]; exact Bk.new w _ _
  have zk : w.heap.size < W0.heap.size := HK.out.lt
  obtain ⟨c0, c1, c2, c3, c4, c5, c6, c7, c8⟩ := HK.out.nine
  clear hm hw hp ha hms ht0 ht1 hes hew
  go_enter Tryz.func121, Tryz.ntmps121
  by_cases hk1 : kind < 1
  · have HN : Hid (¬ OkF ⟨kind, data, ents, (t1, t2), pars, auth, time, msg⟩) := fun h => by have := (HKL.out h).1; omega
    go_wp2_with fail
    go_ret
    exact ChE.no (by decide) HN.out HB0.out
  by_cases hk4 : 4 < kind
  · have HN : Hid (¬ OkF ⟨kind, data, ents, (t1, t2), pars, auth, time, msg⟩) := fun h => by have := (HKL.out h).2; omega
    go_wp2_with fail
    go_ret
    exact ChE.no (by decide) HN.out HB0.out
  go_wp2_with fail
  refine (HO.out W0 (HM.out.below (HB0.out.mono hB) (Nat.le_refl _))).mono ?_
  rintro e w1 ⟨b, rfl, hb, hb1⟩
  have HBO := Lib.hid hb
  have HB1 : Hid (Below w.heap.size w w1) := HB0.out.trans (hb1.mono HB0.out.size)
  have HK1 := Lib.hid (HK.out.below hb1 zk)
  clear hb hb1 hW c0 c1 c2 c3 c4 c5 c6 c7 c8
  obtain ⟨c0, c1, c2, c3, c4, c5, c6, c7, c8⟩ := HK1.out.nine
  cases b with
  | false =>
    have HN : Hid (¬ OkF ⟨kind, data, ents, (t1, t2), pars, auth, time, msg⟩) := fun h => by have := HBO.out.2 (HON.out h); cases this
    go_wp2_with fail
    go_ret
    exact ChE.no (by decide) HN.out HB1.out
  | true =>
  have HOP := Lib.hid (HBO.out.1 rfl)
  by_cases k2 : kind = 2
  · have q2 : (kind == 2) = true := by simp [k2]
    have HI := Lib.hid (HF2.out HOP.out k2)
    clear k2
    go_wp2_with (first | (go_at_call 168; refine (HE.out w1 (HM.out.below (HB1.out.mono hB) (Nat.le_refl _)) (by have := HB1.out.size; omega)).mono ?_; rintro e w2 ⟨z, rfl, hz, hb2⟩))
    go_ret
    exact ⟨z, rfl, hz.trans HI.out.symm, HB1.out.trans (hb2.mono HB1.out.size)⟩
  · have q2 : (kind == 2) = false := by simp [k2]
    by_cases k3 : kind = 3
    · have q3 : (kind == 3) = true := by simp [k3]
      have HI := Lib.hid (HF3.out HOP.out k3)
      clear k2 k3
      go_wp2_with (first | (go_at_call 169; refine (HC.out w1 (HM.out.below (HB1.out.mono hB) (Nat.le_refl _)) (by have := HB1.out.size; omega)).mono ?_; rintro e w2 ⟨z, rfl, hz, hb2⟩))
      go_ret
      exact ⟨z, rfl, hz.trans HI.out.symm, HB1.out.trans (hb2.mono HB1.out.size)⟩
    · have q3 : (kind == 3) = false := by simp [k3]
      have HI := Lib.hid (HF1.out HOP.out (by omega))
      clear k2 k3
      by_cases hdl : 65536 < data.size
      · have hdz : (65536 : Int) < (data.size : Int) := by omega
        have HN : Hid (¬ OkF ⟨kind, data, ents, (t1, t2), pars, auth, time, msg⟩) := fun h => by have := HI.out.1 h; omega
        clear hdl
        go_wp2_with fail
        go_ret
        exact ChE.no (by decide) HN.out HB1.out
      · have hdz : ¬ (65536 : Int) < (data.size : Int) := by omega
        have HY : Hid (OkF ⟨kind, data, ents, (t1, t2), pars, auth, time, msg⟩) := HI.out.2 (by omega)
        clear hdl
        go_wp2_with fail
        go_ret
        exact ChE.yes HY.out HB1.out
end Go.Proofs.YtmdhlkkekidknaaGreatDoor

namespace Go.Proofs.YtmdhlkkekidknaaGreatDoor
open Go.RowKit

def Lf (D : Bytes) (p : Nat → Bool) : Bytes := (List.range 16).map fun j => if p j then D.getD j 0 else 0
theorem Lf_len (D : Bytes) (p : Nat → Bool) : (Lf D p).length = 16 := by simp [Lf]
theorem Lf_set (D : Bytes) (p p' : Nat → Bool) (q : Nat) (b : UInt8) (hb : D[q]? = some b) (hp : ∀ j, p' j = (p j || j == q)) : (Lf D p).set q b = Lf D p' := by
  apply List.ext_getElem?
  intro j
  unfold Lf
  rw [List.getElem?_set]
  by_cases hj : j < 16
  · simp only [List.length_map, List.length_range, List.getElem?_map, List.getElem?_range hj, Option.map_some, hp j]
    by_cases e : q = j
    · subst e
      simp [hj, List.getD, hb]
    · have : (j == q) = false := by rw [beq_eq_false_iff_ne]; exact fun h => e h.symm
      simp [e, this]
  · have h1 : (List.range 16)[j]? = none := by rw [List.getElem?_eq_none]; simp; omega
    simp only [List.length_map, List.length_range, List.getElem?_map, h1, Option.map_none]
    split
    · rename_i h; subst h; simp [hj]
    · rfl
theorem Lf_all (D : Bytes) (hD : D.length = 16) (p : Nat → Bool) (hp : ∀ j, j < 16 → p j = true) : Lf D p = D := by
  apply List.ext_getElem?
  intro j
  unfold Lf
  by_cases hj : j < 16
  · simp [List.getElem?_range hj, hp j hj, List.getD, List.getElem?_eq_getElem (show j < D.length by omega)]
  · rw [List.getElem?_eq_none (by simp; omega), List.getElem?_eq_none (by omega)]
theorem bc_set (l : Bytes) (q : Nat) (b : UInt8) : (bc (l.set q b)).toArray = (bc l).toArray.setIfInBounds q (.int .u8 b.toNat) := by
  apply Array.ext'
  simp [bc, List.map_set]
def pw (k t : Nat) (j : Nat) : Bool := decide (j < 8 * k ∨ (8 * k + 8 - t ≤ j ∧ j < 8 * k + 8))

def zeros16 : Array Value := Array.replicate 16 (.int .u8 0)
theorem mk16 (w : World) : (Instr.makeSlice 161 (.int .i64 16) (.int .i64 16)).run Tryz.prog w = .ok (.slice (some ⟨w.heap.size, 0, none⟩) 16 16) (w.alloc (.cells zeros16 5)) := by kernel_rfl
theorem zeros_Lf (D : Bytes) : zeros16 = (bc (Lf D (pw 0 0))).toArray := by
  have : Lf D (pw 0 0) = List.replicate 16 0 := by
    apply List.ext_getElem?
    intro j
    unfold Lf
    by_cases hj : j < 16
    · have h0 : pw 0 0 j = false := by
        simp only [pw, decide_eq_false_iff_not]; omega
      rw [List.getElem?_replicate, if_pos hj, List.getElem?_map, List.getElem?_range hj, Option.map_some, h0]
      rfl
    · rw [List.getElem?_eq_none (by simp; omega), List.getElem?_eq_none (by simp; omega)]
  rw [this]
  rfl
theorem pw_next (k j : Nat) : pw (k + 1) 0 j = pw k 8 j := by
  simp only [pw, decide_eq_decide]; omega
theorem pw_step {k t : Nat} (ht : t < 8) (j : Nat) : pw k (t + 1) j = (pw k t j || j == 8 * k + (7 - t)) := by
  simp only [pw]
  rw [Bool.eq_iff_iff]
  simp
  omega

set_option maxRecDepth 100000 in
set_option maxHeartbeats 4000000 in
theorem refBytes_any (d : Dig) (hd : WfD d) (w : World) : Calls Tryz.prog 172 #[digV d] w fun e w' => e = .returned (.string (ofL (digB d))) ∧ Below w.heap.size w w' := by
  obtain ⟨x, y⟩ := d
  obtain ⟨hx0, hx1, hy0, hy1⟩ := hd
  simp only at hx0 hx1 hy0 hy1
  obtain ⟨x, rfl⟩ := Int.eq_ofNat_of_zero_le hx0
  obtain ⟨y, rfl⟩ := Int.eq_ofNat_of_zero_le hy0
  have HX1 := Lib.hid hx1; have HY1 := Lib.hid hy1; clear hx0 hx1 hy0 hy1
  show Calls Tryz.prog 172 #[.agg #[.int .u64 x, .int .u64 y]] w _
  have hmk := mk16
  have K0 : Bk ((w.alloc (.cells #[.int .u64 x, .int .u64 y] 30)).alloc (.cells zeros16 5)) w.heap.size 30 #[.int .u64 x, .int .u64 y] := (Bk.new w 30 _).alloc _
  have K1 : Bk ((w.alloc (.cells #[.int .u64 x, .int .u64 y] 30)).alloc (.cells zeros16 5)) (w.heap.size + 1) 5 (bc (Lf (digB ((x : Int), (y : Int))) (pw 0 0))).toArray := by
    have := Bk.new (w.alloc (.cells #[.int .u64 x, .int .u64 y] 30)) 5 zeros16
    rw [World.size_alloc, zeros_Lf (digB ((x : Int), (y : Int)))] at this
    rw [zeros_Lf (digB ((x : Int), (y : Int)))]
    exact this
  have HB : Hid (Below w.heap.size w ((w.alloc (.cells #[.int .u64 x, .int .u64 y] 30)).alloc (.cells zeros16 5))) := ((Below.refl _ w).alloc (Nat.le_refl _) _).alloc (by simp) _
  have HK0 := Lib.hid K0; have HK1 := Lib.hid K1; clear K0 K1
  go_enter Tryz.func172, Tryz.ntmps172
  go_wp2
  go_loopw [4] (fun i wr => ∃ k : Nat, k ≤ 2 ∧ i = .int .i64 k ∧ Hid (Bk wr w.heap.size 30 #[.int .u64 x, .int .u64 y]) ∧ Hid (Bk wr (w.heap.size + 1) 5 (bc (Lf (digB ((x : Int), (y : Int))) (pw k 0))).toArray) ∧ Hid (Below w.heap.size w wr)) (fun i _ => 2 - (intOf i).toNat)
  case atStart => exact ⟨0, by omega, rfl, HK0.out, HK1.out, HB.out⟩
  case round =>
    obtain ⟨k, hk, rfl, J0, J1, hB⟩ := hrel
    by_cases hlt2 : k < 2
    · have hlz : (k : Int) < 2 := by omega
      obtain ⟨z, hz, hix, hby⟩ : ∃ z : Nat, Hid (z < 18446744073709551616) ∧ wr.cell? ⟨w.heap.size, k, none⟩ = some (.int .u64 (z : Int)) ∧ (∀ j, j < 8 → (digB ((x : Int), (y : Int)))[8 * k + j]? = some (UInt8.ofNat (z / 256 ^ (7 - j) % 256))) := by
        rcases Nat.lt_or_ge k 1 with h1 | h1
        · obtain rfl : k = 0 := by omega
          refine ⟨x, by show _ < _; have := HX1.out; omega, J0.out.cell 0, fun j hj => ?_⟩
          unfold digB
          rw [List.getElem?_append_left (by rw [be_len]; omega), Int.toNat_natCast, show 8 * 0 + j = j by omega]
          exact be_get 8 x j hj
        · obtain rfl : k = 1 := by omega
          refine ⟨y, by show _ < _; have := HY1.out; omega, J0.out.cell 1, fun j hj => ?_⟩
          unfold digB
          rw [List.getElem?_append_right (by rw [be_len]; omega), Int.toNat_natCast, be_len, show 8 * 1 + j - 8 = j by omega]
          exact be_get 8 y j hj
      have HBY := Lib.hid hby; clear hby
      go_wp2
      obtain ⟨wo, rfl⟩ : ∃ wo : World, wo = wr := ⟨_, rfl⟩
      go_loopw [5, 6] (fun v i wr => ∃ (t p : Nat), t ≤ 8 ∧ i = .int .i64 (7 - (t : Int)) ∧ v = .int .u64 p ∧ Hid (p = z / 256 ^ t) ∧ Hid (Bk wr w.heap.size 30 #[.int .u64 x, .int .u64 y]) ∧ Hid (Bk wr (w.heap.size + 1) 5 (bc (Lf (digB ((x : Int), (y : Int))) (pw k t))).toArray) ∧ Hid (Below w.heap.size w wr)) (fun _ i _ => (intOf i + 1).toNat)
      case atStart => exact ⟨0, z, by omega, rfl, rfl, by show _ = _; simp, J0, J1, hB⟩
      case round =>
        obtain ⟨t, p, ht, rfl, rfl, hp, L0, L1, hB⟩ := hrel
        by_cases hlt : t < 8
        · have hji : (0 : Int) ≤ 7 - (t : Int) := by omega
          obtain ⟨b, hb⟩ : ∃ b, UInt8.ofNat (p % 256) = b := ⟨_, rfl⟩
          have hmod : ((p : Int) % 256) = (b.toNat : Int) := by rw [← hb, toNat_ofNat8 (by omega)]; omega
          obtain ⟨p2, hp2⟩ : ∃ p2, p / 256 = p2 := ⟨_, rfl⟩
          have hdiv : ((p : Int) / 256) = (p2 : Int) := by omega
          have HBJ : Hid ((digB ((x : Int), (y : Int)))[8 * k + (7 - t)]? = some b) := by
            show _ = _
            rw [HBY.out (7 - t) (by omega), show 7 - (7 - t) = t by omega, ← hp.out, hb]
          have HDV : Hid (p2 = z / 256 ^ (t + 1)) := by show _ = _; rw [← hp2, hp.out, Nat.pow_succ, Nat.div_div_eq_div_mul]
          have hbl : b.toNat < 256 := b.toNat_lt
          have HPB : Hid (p2 < 18446744073709551616) := by
            show _ < _
            rw [HDV.out]; exact Nat.lt_of_le_of_lt (Nat.div_le_self _ _) hz.out
          clear hb hp2
          generalize hq : 7 - (t : Int) = q at *
          have HQ := Lib.hid hq
          obtain ⟨r, hr⟩ : ∃ r : Nat, 8 * (k : Int) + q = (r : Int) := ⟨8 * k + (7 - t), by omega⟩
          have HR : Hid (r = 8 * k + (7 - t)) := by show _ = _; omega
          have hrl : r < 16 := by omega
          have f0 := L1.out.free r
          obtain ⟨v0, hv0⟩ : ∃ v0, wr.cell? ⟨w.heap.size + 1, r, none⟩ = some v0 := by
            rw [L1.out.cell]
            have hl : r < (bc (Lf (digB ((x : Int), (y : Int))) (pw k t))).toArray.size := by rw [List.size_toArray, bc_len, Lf_len]; exact hrl
            exact ⟨_, Array.getElem?_eq_getElem hl⟩
          have hq1 : -100 ≤ q := by omega
          have hq2 : q ≤ 100 := by omega
          clear hq
          go_wp2
          go_roundw
          case rel =>
            refine ⟨t + 1, p2, by omega, by rw [← HQ.out]; congr 1; omega, by rw [IntWalk.u64_in _ ⟨by omega, by have := HPB.out; omega⟩], HDV.out, L0.out.far (p := ⟨w.heap.size + 1, r, none⟩) (by simp) _, ?_, hB.out.setCell (p := ⟨w.heap.size + 1, r, none⟩) (by simp) _⟩
            have h1 := L1.out.set r (.int .u8 b.toNat)
            have hD := HBJ.out
            rw [← HR.out] at hD
            rw [← bc_set, Lf_set _ _ (pw k (t + 1)) r b hD (fun j => by rw [pw_step hlt, HR.out])] at h1
            exact h1
          case measure => have := HQ.out; simp [intOf]; omega
        · have hji : ¬ (0 : Int) ≤ 7 - (t : Int) := by omega
          have HT8 : Hid (t = 8) := by show _ = _; omega
          generalize hq : 7 - (t : Int) = q at *
          clear hq
          go_wp2
          go_roundw
          case rel =>
            refine ⟨k + 1, by omega, by go_num, L0.out, ?_, hB.out⟩
            have h1 := L1.out
            rw [HT8.out, ← show pw (k + 1) 0 = pw k 8 from funext (pw_next k)] at h1
            exact h1
          case measure => simp [intOf]; omega
    · have hlz : ¬ (k : Int) < 2 := by omega
      have HK2 : Hid (k = 2) := by show _ = _; omega
      have hconv := run_convert_bytes_back (P := Tryz.prog) wr 161 9 5 ⟨w.heap.size + 1, 0, none⟩ 16 (digB ((x : Int), (y : Int))) Tryz.underlying161 Tryz.underlying5 Tryz.underlying9 (by
        intro j hj
        have h1 := J1.out.cell j
        rw [Lf_all _ (digB_len _) (pw k 0) (fun i hi => by rw [HK2.out]; simp only [pw, decide_eq_true_eq]; omega)] at h1
        rw [Addr.add_lit, Nat.zero_add, h1]
        simp [bc, List.getElem?_eq_getElem hj])
      rw [digB_len] at hconv
      go_wp2
      go_ret
      exact ⟨rfl, hB.out⟩
end Go.Proofs.YtmdhlkkekidknaaGreatDoor

namespace Go.Proofs.YtmdhlkkekidknaaGreatDoor
open Go.RowKit

theorem ofL_append (a b : Bytes) : ofL a ++ ofL b = ofL (a ++ b) := by
  apply ByteArray.ext
  simp [ofL]
theorem rp_list9 {vs : List Value} (h : vs.length = 9) : ∃ v0 v1 v2 v3 v4 v5 v6 v7 v8, vs = [v0, v1, v2, v3, v4, v5, v6, v7, v8] := by
  match vs, h with
  | [v0, v1, v2, v3, v4, v5, v6, v7, v8], _ => exact ⟨v0, v1, v2, v3, v4, v5, v6, v7, v8, rfl⟩
def putPhi (n : Nat) (i : Nat) (v : Value) (w : World) : Prop :=
  match i with
  | 0 => v = .int .i64 n
  | 1 => v = .int .i64 ((n : Int) % 128)
  | 2 => v = .int .i64 (128 + (n : Int) % 128)
  | 3 => v = .int .u8 (128 + (n : Int) % 128)
  | 4 => ∃ g, v = .slice (some ⟨g, 0, none⟩) 1 1 ∧ g < w.heap.size ∧ w.cell? ⟨g, 0, none⟩ = some (.int .u8 (128 + (n : Int) % 128))
  | 5 => v = .string (ofL [UInt8.ofNat (n % 128 + 128)])
  | 6 => v = .int .i64 n
  | 7 => v = .int .i64 ((n : Int) / 128)
  | _ => v = .string (ofL (encN (n / 128)))
theorem putPhi_keep (n : Nat) (i : Nat) (v : Value) (w w' : World) (h : putPhi n i v w) (hb : Below w.heap.size w w') : putPhi n i v w' := by
  match i with
  | 0 => exact h
  | 1 => exact h
  | 2 => exact h
  | 3 => exact h
  | 4 =>
    obtain ⟨g, e, hg, hc⟩ := h
    exact ⟨g, e, Nat.lt_of_lt_of_le hg hb.size, (hb.cell (p := ⟨g, 0, none⟩) hg).trans hc⟩
  | 5 => exact h
  | 6 => exact h
  | 7 => exact h
  | _ + 8 => exact h

set_option maxRecDepth 100000 in
set_option maxHeartbeats 2000000 in
theorem put_any (n : Nat) : n ≤ 9223372036854775807 → ∀ w : World, Calls Tryz.prog 216 #[.int .i64 n] w fun e w' => e = .returned (.string (ofL (encN n))) ∧ Below w.heap.size w w' := by
  induction n using Nat.strongRecOn with
  | _ n ih =>
  intro hn w
  have IH := Lib.hid ih; clear ih
  by_cases hs : n < 128
  · have hsi : (n : Int) < 128 := by omega
    have HE := Lib.hid (encN_small hs)
    have hconv := run_convert_bytes_back (P := Tryz.prog) (w.alloc (.cells #[.int .u8 n] 5)) 161 9 5 ⟨w.heap.size, 0, none⟩ 1 [UInt8.ofNat n] Tryz.underlying161 Tryz.underlying5 Tryz.underlying9 (by
      intro j hj
      simp at hj; subst hj
      simp [Addr.add, toNat_ofNat8 (n := n) (by omega)])
    simp only [List.length_cons, List.length_nil, Nat.zero_add] at hconv
    go_enter Tryz.func216, Tryz.ntmps216
    go_wp2
    go_ret
    exact ⟨by rw [HE.out]; rfl, (Below.refl _ _).alloc (Nat.le_refl _) _⟩
  · have hsi : ¬ (n : Int) < 128 := by omega
    have HE := Lib.hid (encN_big hs)
    go_enter Tryz.func216, Tryz.ntmps216
    go_wp2_with fail
    refine wp_region_stableD 9 [9, 10, 11, 12, 13, 14, 15, 16, 17] (by kernel_rfl) (by kernel_rfl) (by kernel_rfl) (fun W => Below w.heap.size w W) (fun W W' => Below W.heap.size W W')
      (putPhi n) (fun W W' h1 h2 => h1.trans (h2.mono h1.size)) (putPhi_keep n) (Below.refl _ _).drew ?step ?tail
    case step =>
      intro i o vs W hi ho hv hR hphi
      obtain ⟨v0, v1, v2, v3, v4, v5, v6, v7, v8, rfl⟩ := rp_list9 hv
      simp only [List.zip, List.zipWith, putAll, Act.put, List.setIfInBounds_toArray, List.set]
      have h0 : (0 : Int) ≤ (n : Int) := by omega
      match i, hi, ho with
      | 0, _, rfl => exact gives_value (w' := W) (by go_simp) ⟨Below.refl _ _, rfl⟩
      | 1, _, rfl =>
        have e0 : v0 = _ := hphi ⟨0, .data⟩ (by simp) rfl v0 rfl
        subst e0
        exact gives_value (v := .int .i64 ((n : Int) % 128)) (w' := W) (by go_simp; exact Int.tmod_eq_emod_of_nonneg h0) ⟨Below.refl _ _, rfl⟩
      | 2, _, rfl =>
        have e0 : v1 = _ := hphi ⟨1, .data⟩ (by simp) rfl v1 rfl
        subst e0
        exact gives_value (v := .int .i64 (128 + (n : Int) % 128)) (w' := W) (by go_simp; exact IntWalk.i64_in _ (by omega)) ⟨Below.refl _ _, rfl⟩
      | 3, _, rfl =>
        have e0 : v2 = _ := hphi ⟨2, .data⟩ (by simp) rfl v2 rfl
        subst e0
        exact gives_value (v := .int .u8 (128 + (n : Int) % 128)) (w' := W) (by go_simp; exact IntWalk.u8_in _ (by omega)) ⟨Below.refl _ _, rfl⟩
      | 4, _, rfl =>
        have e0 : v3 = _ := hphi ⟨3, .data⟩ (by simp) rfl v3 rfl
        subst e0
        exact gives_value (v := .slice (some ⟨W.heap.size, 0, none⟩) 1 1) (w' := W.alloc (.cells #[.int .u8 (128 + (n : Int) % 128)] 5)) (by go_simp) ⟨(Below.refl _ _).alloc (Nat.le_refl _) _, W.heap.size, rfl, by simp, by simp⟩
      | 5, _, rfl =>
        obtain ⟨g, e0, hg, hc⟩ : ∃ g, v4 = .slice (some ⟨g, 0, none⟩) 1 1 ∧ g < W.heap.size ∧ W.cell? ⟨g, 0, none⟩ = some (.int .u8 (128 + (n : Int) % 128)) := hphi ⟨4, .data⟩ (by simp) rfl v4 rfl
        subst e0
        have hconv := run_convert_bytes_back (P := Tryz.prog) W 161 9 5 ⟨g, 0, none⟩ 1 [UInt8.ofNat (n % 128 + 128)] Tryz.underlying161 Tryz.underlying5 Tryz.underlying9 (by
          intro j hj
          simp at hj; subst hj
          simp only [Addr.add, if_true, List.getElem_cons_zero, toNat_ofNat8 (n := n % 128 + 128) (by omega)]
          rw [hc]; congr 2; omega)
        simp only [List.length_cons, List.length_nil, Nat.zero_add] at hconv
        exact gives_value (v := .string (ofL [UInt8.ofNat (n % 128 + 128)])) (w' := W) (by go_simp; rfl) ⟨Below.refl _ _, rfl⟩
      | 6, _, rfl => exact gives_value (w' := W) (by go_simp) ⟨Below.refl _ _, rfl⟩
      | 7, _, rfl =>
        have e0 : v6 = _ := hphi ⟨6, .data⟩ (by simp) rfl v6 rfl
        subst e0
        exact gives_value (v := .int .i64 ((n : Int) / 128)) (w' := W) (by go_simp; exact IntWalk.i64_in _ (by omega)) ⟨Below.refl _ _, rfl⟩
      | 8, _, rfl =>
        have e0 : v7 = _ := hphi ⟨7, .data⟩ (by simp) rfl v7 rfl
        subst e0
        refine gives_call (f := 216) (args := #[.int .i64 ((n / 128 : Nat) : Int)]) (by go_simp) ((IH.out (n / 128) (by omega) (by omega) W).mono ?_)
        rintro e W' ⟨rfl, hb⟩
        exact ⟨_, rfl, hb, rfl⟩
    case tail =>
      intro vs W hv hR hphi
      obtain ⟨v0, v1, v2, v3, v4, v5, v6, v7, v8, rfl⟩ := rp_list9 hv
      simp only [List.zip, List.zipWith, putAll, Act.put, List.setIfInBounds_toArray, List.set, List.drop]
      have e5 : v5 = .string (ofL [UInt8.ofNat (n % 128 + 128)]) := hphi 5 v5 rfl
      have e8 : v8 = .string (ofL (encN (n / 128))) := hphi 8 v8 rfl
      subst e5 e8
      have HR := Lib.hid hR
      clear hphi hR
      have hl1 : (ofL [UInt8.ofNat (n % 128 + 128)]).size = 1 := rfl
      have hl2 : (ofL (encN (n / 128))).size ≤ 10 := by rw [size_ofL]; exact encN_len 9 _ (by omega)
      have HF : Hid (ofL [UInt8.ofNat (n % 128 + 128)] ++ ofL (encN (n / 128)) = ofL (encN n)) := by
        show _ = _
        rw [ofL_append, HE.out]; rfl
      generalize ofL [UInt8.ofNat (n % 128 + 128)] = p at *
      generalize ofL (encN (n / 128)) = q at *
      have hsum : p.size + q.size ≤ 9223372036854775807 := by omega
      clear hl1 hl2
      go_wp2
      go_ret
      exact ⟨by rw [HF.out]; rfl, HR.out⟩

set_option maxHeartbeats 1000000 in
theorem refPutInt_any (n : Nat) (hn : n ≤ 1099511627776) (w : World) :
    Calls Tryz.prog 202 #[.int .i64 n] w fun e w' => e = .returned (.tuple #[.string (ofL (encN n)), .int .i64 0]) ∧ Below w.heap.size w w' := by
  have h0 : ¬ (n : Int) < 0 := by omega
  have h1 : ¬ (1099511627776 : Int) < (n : Int) := by omega
  go_enter Tryz.func202, Tryz.ntmps202
  go_wp2_with fail
  refine (put_any n (by omega) _).mono ?_
  rintro e w1 ⟨rfl, hb1⟩
  have HB1 := Lib.hid hb1; clear hb1
  go_wp2_with fail
  go_ret2
  exact ⟨rfl, HB1.out⟩

set_option maxHeartbeats 1000000 in
theorem refPutText_any (s : ByteArray) (hs : s.size ≤ 65536) (w : World) :
    Calls Tryz.prog 203 #[.string s] w fun e w' => e = .returned (.tuple #[.string (ofL (encT (toL s))), .int .i64 0]) ∧ Below w.heap.size w w' := by
  have hsi : ¬ (65536 : Int) < (s.size : Int) := by omega
  go_enter Tryz.func203, Tryz.ntmps203
  go_wp2_with fail
  refine (put_any s.size (by omega) _).mono ?_
  rintro e w1 ⟨rfl, hb1⟩
  have HB1 := Lib.hid hb1; clear hb1
  have hl2 : (ofL (encN s.size)).size ≤ 6 := by rw [size_ofL]; exact encN_len 5 _ (by omega)
  have HF : Hid (ofL (encN s.size) ++ s = ofL (encT (toL s))) := by
    show _ = _
    unfold encT
    rw [← size_toL, ← ofL_append, ofL_toL]
  generalize ofL (encN s.size) = q at *
  have hsum : q.size + s.size ≤ 9223372036854775807 := by omega
  go_wp2_with fail
  go_ret2
  exact ⟨by rw [HF.out]; rfl, HB1.out⟩
end Go.Proofs.YtmdhlkkekidknaaGreatDoor
