/-
  Lemmas: cordwoodref01.GetInt and GetText. The reference's reader of objects: number, text, digest, on whatever is before it. What the reference's Decode reads, as a function of the bytes; in plain Lean. The reference's check of an object's fields: entries; exact. The reference's check of an object's fields: commits, and all kinds; exact. The reference's check of an object's fields: all kinds; exact. cordwoodref07.Bytes: the 16 bytes of a digest. The reference's encode of objects with valid fields. The reference's Check and Encode of objects, exact. The reference's Decode of objects, exact. The reference's bounds and check of pools; the law's valid. cordwoodlaw09.valid, cordwoodlaw09.samePool. pool.Check on a valid pool. TreeRoundTrip: the law. The arguments that come in (law09): digests, pools, changes.
-/
import Derived.IntWalk
import Derived.Deep.RegionHeld3
import Derived.Test.YtmdhlkkekidknaaGreatDoorU11

namespace Go.Proofs.YtmdhlkkekidknaaGreatDoor
open Go.RowKit

set_option maxRecDepth 100000 in
set_option maxHeartbeats 2000000 in
theorem refGetInt_any (s : ByteArray) (w : World) : Calls Tryz.prog 173 #[.string s] w (RetI (getI (toL s)) w) := by
  have HR : Hid (∀ r, getI (toL s) = r → ∀ e w', RetI r w e w' → RetI (getI (toL s)) w e w') := fun r h e w' hh => by rw [h]; exact hh
  have H0 : Hid (getI (toL s) = gi 6 0 0 1 ((toL s).drop 0)) := rfl
  go_enter Tryz.func173, Tryz.ntmps173
  go_wp2
  go_loop [5, 6, 7] (fun n u i => ∃ k a b : Nat, k ≤ 6 ∧ k ≤ s.size ∧ i = .int .i64 k ∧ n = .int .i64 a ∧ u = .int .i64 b ∧ 1 ≤ b ∧ b ≤ 128 ^ 6 ∧ Hid (b = 128 ^ k) ∧ a < b ∧ Hid (getI (toL s) = gi (6 - k) k a b ((toL s).drop k))) (fun _ _ i => 6 - (intOf i).toNat)
  case atStart => exact ⟨0, 0, 1, by omega, by omega, rfl, rfl, rfl, by omega, by omega, rfl, by omega, H0.out⟩
  case round =>
    obtain ⟨k, a, b, hk, hks, rfl, rfl, rfl, hb1, hb2, hb, hab, hg⟩ := hrel
    by_cases hlt : k < 6
    · have hf : Hid (6 - k = 5 - k + 1) := by show _ = _; omega
      by_cases hsz : k < s.size
      · have hsz' : ((k : Int) == (s.size : Int)) = false := by rw [beq_eq_false_iff_ne]; omega
        have hbn : Hid (128 * b = 128 ^ (k + 1)) := by show _ = _; rw [hb.out, Nat.pow_succ, Nat.mul_comm]
        have hbp : 128 * b ≤ 128 ^ 6 := by rw [hbn.out]; exact Nat.pow_le_pow_right (by omega) (by omega)
        have hst : Hid (getI (toL s) = if s[k].toNat < 128 then (if (s[k].toNat = 0 ∧ 0 < k) ∨ 1099511627776 < a + s[k].toNat * b then (0, 0, 13) else (a + s[k].toNat * b, k + 1, 0)) else gi (5 - k) (k + 1) (a + (s[k].toNat - 128) * b) (b * 128) ((toL s).drop (k + 1))) := by
          show _ = _
          rw [hg.out, hf.out, drop_byte hsz, gi]
        have hd : s[k].toNat < 256 := s[k].toNat_lt
        generalize hdd : s[k].toNat = d at *
        have hdi : (s[k].toNat : Int) = (d : Int) := by rw [hdd]
        clear hdd
        by_cases h128 : d < 128
        · obtain ⟨p, hp⟩ : ∃ p, d * b = p := ⟨_, rfl⟩
          have hpb : p ≤ 128 * b := by rw [← hp]; exact Nat.mul_le_mul_right _ (by omega)
          have hpi : (b : Int) * (d : Int) = (p : Int) := by rw [← hp, Int.natCast_mul, Int.mul_comm]
          have hmd : (d : Int) % 128 = (d : Int) := by omega
          have h128i : (d : Int) < 128 := by omega
          rw [hp, if_pos h128] at hst
          clear hp
          by_cases hmx : 1099511627776 < a + p
          · have hmxi : (1099511627776 : Int) < (a : Int) + (p : Int) := by omega
            have hfin : Hid (getI (toL s) = (0, 0, 13)) := by show _ = _; rw [hst.out, if_pos (.inr hmx)]
            clear hst hg
            by_cases hd0 : d = 0
            · have hd0i : ((d : Int) == 0) = true := by rw [beq_iff_eq]; omega
              clear hd0
              by_cases hk0 : (0 : Int) < (k : Int)
              all_goals
                go_wp2
                go_ret3
                exact HR.out _ hfin.out _ _ ⟨rfl, rfl⟩
            · have hd0i : ((d : Int) == 0) = false := by rw [beq_eq_false_iff_ne]; omega
              clear hd0
              go_wp2
              go_ret3
              exact HR.out _ hfin.out _ _ ⟨rfl, rfl⟩
          · have hmxi : ¬ (1099511627776 : Int) < (a : Int) + (p : Int) := by omega
            by_cases hd0 : d = 0
            · have hd0i : ((d : Int) == 0) = true := by rw [beq_iff_eq]; omega
              by_cases hk0 : 0 < k
              · have hk0i : (0 : Int) < (k : Int) := by omega
                have hfin : Hid (getI (toL s) = (0, 0, 13)) := by show _ = _; rw [hst.out, if_pos (.inl ⟨hd0, hk0⟩)]
                clear hst hg hd0
                go_wp2
                go_ret3
                exact HR.out _ hfin.out _ _ ⟨rfl, rfl⟩
              · have hk0i : ¬ (0 : Int) < (k : Int) := by omega
                have hfin : Hid (getI (toL s) = (a + p, k + 1, 0)) := by show _ = _; rw [hst.out, if_neg (by omega)]
                clear hst hg hd0
                go_wp2
                go_ret3
                exact HR.out _ hfin.out _ _ ⟨rfl, rfl⟩
            · have hd0i : ((d : Int) == 0) = false := by rw [beq_eq_false_iff_ne]; omega
              have hfin : Hid (getI (toL s) = (a + p, k + 1, 0)) := by show _ = _; rw [hst.out, if_neg (by omega)]
              clear hst hg hd0
              by_cases hk0 : (0 : Int) < (k : Int)
              all_goals
                go_wp2
                go_ret3
                exact HR.out _ hfin.out _ _ ⟨rfl, rfl⟩
        · obtain ⟨p, hp⟩ : ∃ p, (d - 128) * b = p := ⟨_, rfl⟩
          have hpb : p + b ≤ 128 * b := by
            have : (d - 128 + 1) * b ≤ 128 * b := Nat.mul_le_mul_right _ (by omega)
            rw [Nat.add_mul, hp] at this; omega
          have hpi : (b : Int) * ((d : Int) - 128) = (p : Int) := by
            rw [← hp, Int.natCast_mul, Int.ofNat_sub (by omega), Int.mul_comm]; rfl
          have hmd : (d : Int) % 128 = (d : Int) - 128 := by omega
          have h128i : ¬ (d : Int) < 128 := by omega
          rw [hp, if_neg h128] at hst
          clear hp
          go_wp2
          go_round
          case rel => exact ⟨k + 1, a + p, b * 128, by omega, by omega, by go_num, by go_num, by go_num, by omega, by omega, by show _ = _; rw [Nat.mul_comm]; exact hbn.out, by omega, by show _ = _; rw [hst.out, show 6 - (k + 1) = 5 - k by omega]⟩
          case measure => simp [intOf]; omega
      · have hsz' : ((k : Int) == (s.size : Int)) = true := by rw [beq_iff_eq]; omega
        have hfin : Hid (getI (toL s) = (0, 0, 12)) := by
          show _ = _
          rw [hg.out, hf.out, List.drop_of_length_le (by rw [← size_toL]; omega), gi]
        clear hg
        go_wp2
        go_ret3
        exact HR.out _ hfin.out _ _ ⟨rfl, rfl⟩
    · have hfin : Hid (getI (toL s) = (0, 0, 13)) := by
        show _ = _
        rw [hg.out, show 6 - k = 0 by omega, gi]
      clear hg
      go_wp2
      go_ret3
      exact HR.out _ hfin.out _ _ ⟨rfl, rfl⟩

set_option maxRecDepth 100000 in
set_option maxHeartbeats 2000000 in
theorem refGetText_any (s : ByteArray) (hs : s.size ≤ maxLen) (w : World) : Calls Tryz.prog 174 #[.string s] w (RetT (getT (toL s)) w) := by
  unfold maxLen at hs
  have HR : Hid (∀ r, getT (toL s) = r → ∀ e w', RetT r w e w' → RetT (getT (toL s)) w e w') := fun r h e w' hh => by rw [h]; exact hh
  have HD : Hid (getT (toL s) = if (getI (toL s)).2.2 ≠ 0 then ([], 0, (getI (toL s)).2.2) else if 65536 < (getI (toL s)).1 then ([], 0, 13) else if (toL s).length < (getI (toL s)).2.1 + (getI (toL s)).1 then ([], 0, 12) else (((toL s).drop (getI (toL s)).2.1).take (getI (toL s)).1, (getI (toL s)).2.1 + (getI (toL s)).1, 0)) := rfl
  rw [← size_toL] at HD
  have hle := getI_le (toL s)
  rw [← size_toL] at hle
  have hmx := getI_max (toL s)
  go_enter Tryz.func174, Tryz.ntmps174
  go_wp2_with fail
  refine (refGetInt_any s _).mono ?_
  generalize getI (toL s) = r at *
  obtain ⟨n, k, e⟩ := r
  rintro e' w' ⟨rfl, rfl⟩
  simp only at hle hmx HD ⊢
  by_cases he : e = 0
  · subst he
    by_cases hn : 65536 < n
    · have hni : (65536 : Int) < (n : Int) := by omega
      have hfin : Hid (getT (toL s) = ([], 0, 13)) := by show _ = _; rw [HD.out, if_neg (by simp), if_pos hn]
      clear HD
      go_wp2
      go_ret3
      exact HR.out _ hfin.out _ _ ⟨rfl, rfl⟩
    · have hni : ¬ (65536 : Int) < (n : Int) := by omega
      by_cases hl : s.size < k + n
      · have hli : (s.size : Int) - (k : Int) < (n : Int) := by omega
        have hfin : Hid (getT (toL s) = ([], 0, 12)) := by show _ = _; rw [HD.out, if_neg (by simp), if_neg hn, if_pos hl]
        clear HD
        go_wp2
        go_ret3
        exact HR.out _ hfin.out _ _ ⟨rfl, rfl⟩
      · have hli : ¬ (s.size : Int) - (k : Int) < (n : Int) := by omega
        have hfin : Hid (getT (toL s) = (((toL s).drop k).take n, k + n, 0)) := by show _ = _; rw [HD.out, if_neg (by simp), if_neg hn, if_neg hl]
        have HX := Lib.hid (extract_ofL s k n)
        clear HD
        go_wp2
        go_ret3
        exact HR.out _ hfin.out _ _ ⟨by rw [← HX.out]; rfl, rfl⟩
  · have hne : (e != 0) = true := by rw [bne_iff_ne]; exact he
    have hfin : Hid (getT (toL s) = ([], 0, e)) := by show _ = _; rw [HD.out, if_pos he]
    clear HD he
    go_wp2
    go_ret3
    exact HR.out _ hfin.out _ _ ⟨rfl, rfl⟩
end Go.Proofs.YtmdhlkkekidknaaGreatDoor

namespace Go.Proofs.YtmdhlkkekidknaaGreatDoor
open Go.RowKit

abbrev St := Bytes × Bool
def rn (st : St) : Nat × St := if st.2 = true ∨ (getI st.1).2.2 ≠ 0 then (0, st.1, true) else ((getI st.1).1, st.1.drop (getI st.1).2.1, false)
def rt (st : St) : Bytes × St := if st.2 = true ∨ (getT st.1).2.2 ≠ 0 then ([], st.1, true) else ((getT st.1).1, st.1.drop (getT st.1).2.1, false)
def rg (st : St) : Dig × St := if st.2 = true ∨ st.1.length < 16 then (zD, st.1, true) else (dg st.1, st.1.drop 16, false)
theorem rn_enc {k : Nat} (h : k ≤ 1099511627776) (r : Bytes) : rn (encN k ++ r, false) = (k, r, false) := by
  unfold rn; simp only; rw [getI_enc h r, if_neg (by simp)]; simp
theorem rt_enc {t : Bytes} (h : t.length ≤ 65536) (r : Bytes) : rt (encT t ++ r, false) = (t, r, false) := by
  unfold rt; simp only; rw [getT_enc h r, if_neg (by simp)]; simp
theorem rg_enc {d : Dig} (h : WfD d) (r : Bytes) : rg (digB d ++ r, false) = (d, r, false) := by
  unfold rg; simp only
  rw [if_neg (by rw [List.length_append, digB_len]; simp), dg_digB h r, List.drop_left' (digB_len d)]
theorem rn_len (st : St) : (rn st).2.1.length ≤ st.1.length ∧ (rn st).1 ≤ 1099511627776 := by
  unfold rn
  split
  · exact ⟨Nat.le_refl _, Nat.zero_le _⟩
  · exact ⟨by simp, getI_max _⟩
theorem getT_short (l : Bytes) : (getT l).1.length ≤ l.length := by
  unfold getT
  split
  · simp
  · split
    · simp
    · split
      · simp
      · simp; omega
theorem rt_len (st : St) : (rt st).2.1.length ≤ st.1.length ∧ (rt st).1.length ≤ st.1.length := by
  unfold rt
  split
  · exact ⟨Nat.le_refl _, Nat.zero_le _⟩
  · exact ⟨by simp, getT_short _⟩
theorem rg_len (st : St) : (rg st).2.1.length ≤ st.1.length ∧ WfD (rg st).1 := by
  unfold rg
  split
  · exact ⟨Nat.le_refl _, wf_zD⟩
  · exact ⟨by simp, wf_dg _⟩
theorem extract_dr (s : ByteArray) (k : Nat) : s.extract k s.size = ofL ((toL s).drop k) := by
  apply toL_inj
  show (s.extract k s.size).data.toList = (toL s).drop k
  rw [ByteArray.data_extract, Array.toList_extract, List.extract_eq_take_drop, List.take_of_length_le]
  · rfl
  · rw [List.length_drop, size_toL]; exact Nat.le_refl _
def RzE (v : Value) (b : Nat) (st : St) (w : World) (e : Ending) (w' : World) : Prop := e = .returned v ∧ Bk w' b 152 #[.string (ofL st.1), .bool st.2] ∧ Gb (fun g => g = b) w w'
theorem gb_set1 (w : World) (b i : Nat) (x : Value) : Gb (fun g => g = b) w (w.setCell ⟨b, i, none⟩ x) := Gb.set (p := fun g => g = b) (x := b) rfl i x
set_option maxRecDepth 100000 in
set_option maxHeartbeats 2000000 in
theorem rnum7_any (b : Nat) (r : Bytes) (bad : Bool) (w : World) (hk : Bk w b 152 #[.string (ofL r), .bool bad]) (hl : r.length ≤ 1000000) :
    Calls Tryz.prog 123 #[.pointer (some ⟨b, 0, none⟩)] w (RzE (.int .i64 ((rn (r, bad)).1 : Nat)) b (rn (r, bad)).2 w) := by
  have HD : Hid (rn (r, bad) = if bad = true ∨ (getI r).2.2 ≠ 0 then (0, r, true) else ((getI r).1, r.drop (getI r).2.1, false)) := rfl
  have hle := getI_le r
  obtain ⟨s, hs⟩ : ∃ s, ofL r = s := ⟨_, rfl⟩
  rw [hs] at hk
  have htl : toL s = r := by rw [← hs]; rfl
  have hsz : s.size = r.length := by rw [← hs]; rfl
  have HG := Lib.hid (refGetInt_any s w)
  rw [htl] at HG
  have HX := Lib.hid (extract_dr s (getI r).2.1)
  rw [htl] at HX
  have HS : Hid (s = ofL r) := hs.symm
  have HK := Lib.hid hk
  obtain ⟨x0, x1, f0, f1⟩ := hk.two
  unfold RetI at HG
  generalize getI r = g at *
  obtain ⟨n, k, e⟩ := g
  simp only at HD hle HG HX
  rw [← hsz] at hle
  have hki : (k : Int) ≤ (s.size : Int) := by omega
  have hsm : (s.size : Int) ≤ 1000000 := by omega
  clear hk hs htl hsz hl
  have fin : ∀ q, rn (r, bad) = q → ∀ v' w', (∃ p : St, q.2 = p ∧ (.int .i64 (q.1 : Nat)) = v' ∧ Bk w' b 152 #[.string (ofL p.1), .bool p.2] ∧ Gb (fun g => g = b) w w') → RzE (.int .i64 ((rn (r, bad)).1 : Nat)) b (rn (r, bad)).2 w (.returned v') w' := fun q hq v' w' ⟨p, h1, h2, h3, h4⟩ => by rw [hq]; exact ⟨by rw [h2], by rw [h1]; exact h3, h4⟩
  have FIN := Lib.hid fin
  clear fin
  go_enter Tryz.func123, Tryz.ntmps123
  go_wp2_with fail
  refine HG.out.mono ?_
  rintro e' w' ⟨rfl, rfl⟩
  by_cases hb : bad = true ∨ e ≠ 0
  · have HQ : Hid (rn (r, bad) = (0, r, true)) := by show _ = _; rw [HD.out, if_pos hb]
    have hfin : Bk (w.setCell ⟨b, 1, none⟩ (.bool true)) b 152 #[.string (ofL r), .bool true] := by
      have := HK.out.set 1 (.bool true); rw [HS.out] at this; simpa using this
    have HF := Lib.hid hfin
    clear hfin HD
    cases bad with
    | true =>
      clear hb
      go_wp2_with fail
      go_ret
      exact FIN.out _ HQ.out _ _ ⟨_, rfl, rfl, HF.out, gb_set1 _ _ _ _⟩
    | false =>
      have he : (e != 0) = true := by rw [bne_iff_ne]; simpa using hb
      clear hb
      go_wp2_with fail
      go_ret
      exact FIN.out _ HQ.out _ _ ⟨_, rfl, rfl, HF.out, gb_set1 _ _ _ _⟩
  · have HQ : Hid (rn (r, bad) = (n, r.drop k, false)) := by show _ = _; rw [HD.out, if_neg hb]
    obtain rfl : bad = false := by cases bad <;> simp at hb ⊢
    have he : e = 0 := by simpa using hb
    subst he
    have hfin : Bk (w.setCell ⟨b, 0, none⟩ (.string (s.extract k s.size))) b 152 #[.string (ofL (r.drop k)), .bool false] := by
      have := HK.out.set 0 (.string (s.extract k s.size))
      rw [← HX.out]; simpa using this
    have HF := Lib.hid hfin
    clear hfin HD hb
    go_wp2_with fail
    go_ret
    exact FIN.out _ HQ.out _ _ ⟨_, rfl, rfl, HF.out, gb_set1 _ _ _ _⟩
set_option maxRecDepth 100000 in
set_option maxHeartbeats 2000000 in
theorem rtxt7_any (b : Nat) (r : Bytes) (bad : Bool) (w : World) (hk : Bk w b 152 #[.string (ofL r), .bool bad]) (hl : r.length ≤ 1000000) :
    Calls Tryz.prog 124 #[.pointer (some ⟨b, 0, none⟩)] w (RzE (.string (ofL (rt (r, bad)).1)) b (rt (r, bad)).2 w) := by
  have HD : Hid (rt (r, bad) = if bad = true ∨ (getT r).2.2 ≠ 0 then ([], r, true) else ((getT r).1, r.drop (getT r).2.1, false)) := rfl
  have hle := getT_le r
  obtain ⟨s, hs⟩ : ∃ s, ofL r = s := ⟨_, rfl⟩
  rw [hs] at hk
  have htl : toL s = r := by rw [← hs]; rfl
  have hsz : s.size = r.length := by rw [← hs]; rfl
  have HG := Lib.hid (refGetText_any s (by unfold maxLen; omega) w)
  rw [htl] at HG
  have HX := Lib.hid (extract_dr s (getT r).2.1)
  rw [htl] at HX
  have HS : Hid (s = ofL r) := hs.symm
  have HK := Lib.hid hk
  obtain ⟨x0, x1, f0, f1⟩ := hk.two
  unfold RetT at HG
  generalize getT r = g at *
  obtain ⟨n, k, e⟩ := g
  simp only at HD hle HG HX
  rw [← hsz] at hle
  have hki : (k : Int) ≤ (s.size : Int) := by omega
  have hsm : (s.size : Int) ≤ 1000000 := by omega
  clear hk hs htl hsz hl
  have fin : ∀ q, rt (r, bad) = q → ∀ v' w', (∃ p : St, q.2 = p ∧ (.string (ofL q.1)) = v' ∧ Bk w' b 152 #[.string (ofL p.1), .bool p.2] ∧ Gb (fun g => g = b) w w') → RzE (.string (ofL (rt (r, bad)).1)) b (rt (r, bad)).2 w (.returned v') w' := fun q hq v' w' ⟨p, h1, h2, h3, h4⟩ => by rw [hq]; exact ⟨by rw [h2], by rw [h1]; exact h3, h4⟩
  have FIN := Lib.hid fin
  clear fin
  go_enter Tryz.func124, Tryz.ntmps124
  go_wp2_with fail
  refine HG.out.mono ?_
  rintro e' w' ⟨rfl, rfl⟩
  by_cases hb : bad = true ∨ e ≠ 0
  · have HQ : Hid (rt (r, bad) = ([], r, true)) := by show _ = _; rw [HD.out, if_pos hb]
    have hfin : Bk (w.setCell ⟨b, 1, none⟩ (.bool true)) b 152 #[.string (ofL r), .bool true] := by
      have := HK.out.set 1 (.bool true); rw [HS.out] at this; simpa using this
    have HF := Lib.hid hfin
    clear hfin HD
    cases bad with
    | true =>
      clear hb
      go_wp2_with fail
      go_ret
      exact FIN.out _ HQ.out _ _ ⟨_, rfl, rfl, HF.out, gb_set1 _ _ _ _⟩
    | false =>
      have he : (e != 0) = true := by rw [bne_iff_ne]; simpa using hb
      clear hb
      go_wp2_with fail
      go_ret
      exact FIN.out _ HQ.out _ _ ⟨_, rfl, rfl, HF.out, gb_set1 _ _ _ _⟩
  · have HQ : Hid (rt (r, bad) = (n, r.drop k, false)) := by show _ = _; rw [HD.out, if_neg hb]
    obtain rfl : bad = false := by cases bad <;> simp at hb ⊢
    have he : e = 0 := by simpa using hb
    subst he
    have hfin : Bk (w.setCell ⟨b, 0, none⟩ (.string (s.extract k s.size))) b 152 #[.string (ofL (r.drop k)), .bool false] := by
      have := HK.out.set 0 (.string (s.extract k s.size))
      rw [← HX.out]; simpa using this
    have HF := Lib.hid hfin
    clear hfin HD hb
    go_wp2_with fail
    go_ret
    exact FIN.out _ HQ.out _ _ ⟨_, rfl, rfl, HF.out, gb_set1 _ _ _ _⟩
set_option maxRecDepth 100000 in
set_option maxHeartbeats 8000000 in
theorem rdig7_any (b : Nat) (r : Bytes) (bad : Bool) (w : World) (hk : Bk w b 152 #[.string (ofL r), .bool bad]) (hl : r.length ≤ 1000000) :
    Calls Tryz.prog 125 #[.pointer (some ⟨b, 0, none⟩)] w (RzE (digV (rg (r, bad)).1) b (rg (r, bad)).2 w) := by
  have hbw := hk.lt
  have HD : Hid (rg (r, bad) = if bad = true ∨ r.length < 16 then (zD, r, true) else (dg r, r.drop 16, false)) := rfl
  obtain ⟨s, hs⟩ : ∃ s, ofL r = s := ⟨_, rfl⟩
  rw [hs] at hk
  have htl : toL s = r := by rw [← hs]; rfl
  have hsz : s.size = r.length := by rw [← hs]; rfl
  have HX := Lib.hid (extract_dr s 16)
  rw [htl] at HX
  have HS : Hid (s = ofL r) := hs.symm
  have HE := Lib.hid (w_end r)
  have HTL := Lib.hid htl
  obtain ⟨W0, hW0⟩ : ∃ W0, (w.alloc (.cells #[.int .u64 0, .int .u64 0] 30)).alloc (.cells #[.int .u64 0, .int .u64 0] 30) = W0 := ⟨_, rfl⟩
  have HK0 : Hid (Bk W0 w.heap.size 30 #[.int .u64 0, .int .u64 0]) := by rw [← hW0]; exact (Bk.new w _ _).alloc _
  have HK1 : Hid (Bk W0 (w.heap.size + 1) 30 #[.int .u64 0, .int .u64 0]) := by
    rw [← hW0]
    have := Bk.new (w.alloc (.cells #[.int .u64 0, .int .u64 0] 30)) 30 #[.int .u64 0, .int .u64 0]
    rwa [World.size_alloc] at this
  have HB : Hid (Below w.heap.size w W0) := by rw [← hW0]; exact ((Below.refl _ w).alloc (Nat.le_refl _) _).alloc (by simp) _
  have HR := Lib.hid hk
  have hk0 := hk.below HB.out hbw
  obtain ⟨x0, x1, xf0, xf1⟩ := hk0.two
  obtain ⟨y0, y1, y2, y3⟩ := HK1.out.two
  obtain ⟨z0, z1, e0, e1⟩ := HK0.out.two
  rw [← hW0] at x0 x1 xf0 xf1 y0 y1 y2 y3 z0 z1 e0 e1
  have HW := Lib.hid hW0
  clear hW0
  have HKR := Lib.hid hk0
  have hne1 : b ≠ w.heap.size := by omega
  have hne2 : b ≠ w.heap.size + 1 := by omega
  have fin : ∀ q, rg (r, bad) = q → ∀ v' w', (∃ p : St, q.2 = p ∧ digV q.1 = v' ∧ Bk w' b 152 #[.string (ofL p.1), .bool p.2] ∧ Gb (fun g => g = b) w w') → RzE (digV (rg (r, bad)).1) b (rg (r, bad)).2 w (.returned v') w' := fun q hq v' w' ⟨p, h1, h2, h3, h4⟩ => by rw [hq]; exact ⟨by rw [h2], by rw [h1]; exact h3, h4⟩
  have FIN := Lib.hid fin
  rw [← hsz] at hl
  have HSZ := Lib.hid hsz
  clear hk hk0 hs htl fin hsz
  go_enter Tryz.func125, Tryz.ntmps125
  by_cases hb : bad = true ∨ r.length < 16
  · have HQ : Hid (rg (r, bad) = (zD, r, true)) := by show _ = _; rw [HD.out, if_pos hb]
    clear HD HX HE
    have zs1 : (w.setCell ⟨b, 1, none⟩ (.bool true)).heap.size = w.heap.size := by simp [World.setCell]
    have HF : Hid (Bk (((w.setCell ⟨b, 1, none⟩ (.bool true)).alloc (.cells #[.int .u64 0, .int .u64 0] 30)).alloc (.cells #[.int .u64 0, .int .u64 0] 30)) b 152 #[.string (ofL r), .bool true]) := by
      have := ((HR.out.set 1 (.bool true)).alloc (.cells #[.int .u64 0, .int .u64 0] 30)).alloc (.cells #[.int .u64 0, .int .u64 0] 30)
      rw [HS.out] at this
      show Bk _ _ _ _; simpa using this
    have HFZ : Hid (Bk (((w.setCell ⟨b, 1, none⟩ (.bool true)).alloc (.cells #[.int .u64 0, .int .u64 0] 30)).alloc (.cells #[.int .u64 0, .int .u64 0] 30)) w.heap.size 30 #[.int .u64 0, .int .u64 0]) := by
      have := (Bk.new (w.setCell ⟨b, 1, none⟩ (.bool true)) 30 #[.int .u64 0, .int .u64 0]).alloc (.cells #[.int .u64 0, .int .u64 0] 30)
      rw [zs1] at this; exact this
    have HFG : Hid (Gb (fun g => g = b) w (((w.setCell ⟨b, 1, none⟩ (.bool true)).alloc (.cells #[.int .u64 0, .int .u64 0] 30)).alloc (.cells #[.int .u64 0, .int .u64 0] 30))) := (gb_set1 w b 1 _).trans (Gb.of_below (((Below.refl _ _).alloc (Nat.le_refl _) _).alloc (by simp) _))
    clear zs1
    cases bad with
    | true =>
      clear hb
      go_wp2_with fail
      exact bodyPost_ret (res_cellD Tryz.results125 rfl HFZ.out) rfl (FIN.out _ HQ.out _ _ ⟨_, rfl, rfl, HF.out, HFG.out⟩)
    | false =>
      have h16 : (s.size : Int) < 16 := by
        rcases hb with hb | hb
        · cases hb
        · have := HSZ.out; omega
      clear hb
      go_wp2_with fail
      exact bodyPost_ret (res_cellD Tryz.results125 rfl HFZ.out) rfl (FIN.out _ HQ.out _ _ ⟨_, rfl, rfl, HF.out, HFG.out⟩)
  · have HQ : Hid (rg (r, bad) = (dg r, r.drop 16, false)) := by show _ = _; rw [HD.out, if_neg hb]
    have hbf : bad = false := by
      cases bad with
      | false => rfl
      | true => exact absurd (.inl rfl) hb
    have h16' : ¬ r.length < 16 := fun h => hb (.inr h)
    have h16 : 16 ≤ s.size := by have := HSZ.out; omega
    subst hbf
    clear h16'
    have h16i : ¬ (s.size : Int) < 16 := by omega
    have h16j : (16 : Int) ≤ (s.size : Int) := by omega
    clear HD hb
    go_wp2_with fail
    rw [HW.out]
    clear x0 x1 xf0 xf1 y0 y1 y2 y3 z0 z1 e0 e1
    go_loopw [4] (fun i wr => ∃ k : Nat, k ≤ 16 ∧ i = .int .i64 k ∧ Hid (Bk wr w.heap.size 30 #[.int .u64 0, .int .u64 0]) ∧ Hid (Bk wr (w.heap.size + 1) 30 #[.int .u64 (wd1 r k), .int .u64 (wd2 r k)]) ∧ Hid (Below w.heap.size w wr)) (fun i _ => 16 - (intOf i).toNat)
    case atStart => exact ⟨0, by omega, rfl, HK0.out, HK1.out, HB.out⟩
    case round =>
      obtain ⟨k, hk, rfl, J0, J1, hB⟩ := hrel
      obtain ⟨x0, x1, xf0, xf1⟩ := (HR.out.below hB.out hbw).two
      by_cases hlt : k < 16
      · have hks : k < s.size := by omega
        have hd : s[k].toNat < 256 := s[k].toNat_lt
        have hki : (k : Int) < 16 := by omega
        have hbg : r[k]? = some s[k] := by rw [← HTL.out]; exact byte_get hks
        by_cases h8 : k < 8
        · have hx := wd1_lt (l := r) h8
          obtain ⟨e1, e2⟩ := wd1_step hbg h8
          have HE1 := Lib.hid e1; have HE2 := Lib.hid e2
          have y0 := J1.out.cell 0; have y1 := J1.out.cell 1; have f0 := J1.out.free 0
          simp at y0 y1
          clear e1 e2 hbg HX HQ HE
          have hq : (k : Int) / 8 = 0 := by omega
          generalize wd1 r k = x at *
          generalize wd2 r k = y at *
          go_wp2_with fail
          go_region
          go_wp2_with fail
          go_roundw
          case rel => exact ⟨k + 1, by omega, by go_num, J0.out.far (p := ⟨w.heap.size + 1, 0, none⟩) (by simp) _, by show Bk _ _ _ _; rw [HE1.out, HE2.out]; exact J1.out.set 0 _, (hB.out.setCell (p := ⟨w.heap.size + 1, 0, none⟩) (by simp) _).drew⟩
          case measure => simp [intOf]; omega
        · have hx := wd2_lt (l := r) hlt
          obtain ⟨e1, e2⟩ := wd2_step hbg (by omega)
          have HE1 := Lib.hid e1; have HE2 := Lib.hid e2
          have y0 := J1.out.cell 0; have y1 := J1.out.cell 1; have f1 := J1.out.free 1
          simp at y0 y1
          clear e1 e2 hbg HX HQ HE
          have hq : (k : Int) / 8 = 1 := by omega
          generalize wd1 r k = x at *
          generalize wd2 r k = y at *
          go_wp2_with fail
          go_region
          go_wp2_with fail
          go_roundw
          case rel => exact ⟨k + 1, by omega, by go_num, J0.out.far (p := ⟨w.heap.size + 1, 1, none⟩) (by simp) _, by show Bk _ _ _ _; rw [HE1.out, HE2.out]; exact J1.out.set 1 _, (hB.out.setCell (p := ⟨w.heap.size + 1, 1, none⟩) (by simp) _).drew⟩
          case measure => simp [intOf]; omega
      · have hke : Hid (k = 16) := by show _ = _; omega
        have hki : ¬ (k : Int) < 16 := by omega
        have HX2 : Hid (dg r = ((wd1 r k : Int), (wd2 r k : Int))) := by show _ = _; rw [hke.out]; exact HE.out
        have HRr := Lib.hid (HR.out.below hB.out hbw)
        obtain ⟨y0, y1, _, _⟩ := J1.out.two
        obtain ⟨z0, z1, f0, f1⟩ := J0.out.two
        generalize wd1 r k = x at *
        generalize wd2 r k = y at *
        clear hlt HE
        go_wp2_with fail
        refine bodyPost_ret (res_cellD Tryz.results125 rfl ((J0.out.far (p := ⟨b, 0, none⟩) hne1.symm _).set2 _ _)) rfl (FIN.out _ HQ.out _ _ ⟨_, rfl, by rw [HX2.out]; rfl, ?_, ((((Gb.of_below hB.out).trans (gb_set1 _ _ _ _)).after (Nat.le_refl _) 0 _).after (Nat.le_refl _) 1 _)⟩)
        rw [← HX.out]
        have := (((HRr.out.set 0 (.string (s.extract 16 s.size))).far (p := ⟨w.heap.size, 0, none⟩) hne1 (.int .u64 x)).far (p := ⟨w.heap.size, 1, none⟩) hne1 (.int .u64 y))
        simpa using this
end Go.Proofs.YtmdhlkkekidknaaGreatDoor

namespace Go.Proofs.YtmdhlkkekidknaaGreatDoor
open Go.RowKit

def rE : Nat → St → List Ent × St
  | 0, st => ([], st)
  | m + 1, st => if st.2 = true then ([], st) else (⟨ofL (rt st).1, decide ((rn (rt st).2).1 = 1), (rg (rn (rt st).2).2).1⟩ :: (rE m (rg (rn (rt st).2).2).2).1, (rE m (rg (rn (rt st).2).2).2).2)
def rD : Nat → St → List Dig × St
  | 0, st => ([], st)
  | m + 1, st => if st.2 = true then ([], st) else ((rg st).1 :: (rD m (rg st).2).1, (rD m (rg st).2).2)
def pz7 (s : Bytes) : Ob × St :=
  let k := rn (s, false)
  if k.1 = 2 then
    let n := rn k.2
    let q := rE n.1 n.2
    (⟨2, ⟨#[]⟩, q.1, zD, [], ⟨#[]⟩, 0, ⟨#[]⟩⟩, q.2)
  else if k.1 = 3 then
    let t := rg k.2
    let n := rn t.2
    let q := rD n.1 n.2
    let a := rt q.2
    let i := rn a.2
    let m := rt i.2
    (⟨3, ⟨#[]⟩, [], t.1, q.1, ofL a.1, (i.1 : Int), ofL m.1⟩, m.2)
  else
    let t := rt k.2
    (⟨(k.1 : Int), ofL t.1, [], zD, [], ⟨#[]⟩, 0, ⟨#[]⟩⟩, t.2)
theorem rE_enc : ∀ (l : List Ent) (r : Bytes), (∀ e ∈ l, OkEnt e) → rE l.length (l.flatMap encE ++ r, false) = (l, r, false)
  | [], r, _ => rfl
  | e :: l, r, h => by
    have he := h e (by simp)
    have hns := nameB_size he.nm
    rw [size_toL] at hns
    have h1 : rt ((e :: l).flatMap encE ++ r, false) = (toL e.nm, encN (if e.dir = true then 1 else 0) ++ (digB e.dg ++ (l.flatMap encE ++ r)), false) := by
      rw [List.flatMap_cons]
      unfold encE
      simp only [List.append_assoc]
      exact rt_enc (by omega) _
    have h2 : rn (encN (if e.dir = true then 1 else 0) ++ (digB e.dg ++ (l.flatMap encE ++ r)), false) = (if e.dir = true then 1 else 0, digB e.dg ++ (l.flatMap encE ++ r), false) := rn_enc (by split <;> omega) _
    have h3 : rg (digB e.dg ++ (l.flatMap encE ++ r), false) = (e.dg, l.flatMap encE ++ r, false) := rg_enc he.dg _
    have ih := rE_enc l r (fun x hx => h x (by simp [hx]))
    rw [List.length_cons, rE, if_neg (by simp), h1]
    simp only
    rw [h2]
    simp only
    rw [h3]
    simp only
    rw [ih]
    obtain ⟨nm, dir, dg⟩ := e
    cases dir <;> simp [ofL_toL]
theorem rD_enc : ∀ (l : List Dig) (r : Bytes), (∀ d ∈ l, WfD d) → rD l.length (l.flatMap digB ++ r, false) = (l, r, false)
  | [], r, _ => rfl
  | d :: l, r, h => by
    have h3 : rg ((d :: l).flatMap digB ++ r, false) = (d, l.flatMap digB ++ r, false) := by
      rw [List.flatMap_cons, List.append_assoc]; exact rg_enc (h d (by simp)) _
    have ih := rD_enc l r (fun x hx => h x (by simp [hx]))
    rw [List.length_cons, rD, if_neg (by simp), h3]
    simp only
    rw [ih]
theorem pz7_enc {o : Ob} (h : OkO o) : pz7 (encO o) = (o, [], false) := by
  have hk := h.f.kind_le
  have h0 : rn (encO o, false) = (o.kind.toNat, encB o, false) := by unfold encO; exact rn_enc (by omega) _
  unfold pz7
  simp only [h0]
  cases h.f with
  | blob k e c d =>
    rw [if_neg (by omega), if_neg (by omega)]
    have h1 : rt (encB o, false) = (toL o.data, [], false) := by
      unfold encB
      rw [if_neg (by omega), if_neg (by omega), ← List.append_nil (encT (toL o.data))]
      exact rt_enc (by rw [← size_toL]; exact d) _
    simp only [h1]
    obtain ⟨c1, c2, c3, c4, c5⟩ := c
    obtain ⟨kind, data, ents, tree, pars, auth, time, msg⟩ := o
    simp only at e c1 c2 c3 c4 c5 hk
    subst e c1 c2 c3 c4 c5
    have : ((kind.toNat : Nat) : Int) = kind := by omega
    simp only [ofL_toL, this]
  | tree k d c e =>
    rw [if_pos (by omega)]
    have h1 : rn (encB o, false) = (o.ents.length, o.ents.flatMap encE ++ [], false) := by
      unfold encB
      rw [if_pos k, List.append_nil]
      exact rn_enc (by have := e.few; omega) _
    have h2 := rE_enc o.ents [] e.all
    simp only [h1, h2]
    obtain ⟨c1, c2, c3, c4, c5⟩ := c
    obtain ⟨kind, data, ents, tree, pars, auth, time, msg⟩ := o
    simp only at k d c1 c2 c3 c4 c5
    subst k d c1 c2 c3 c4 c5
    rfl
  | commit k d e c =>
    rw [if_neg (by omega), if_pos (by omega)]
    have hau := nameB_size c.auth
    have hmg := c.msg
    have ht0 := c.t0
    have ht1 := c.t1
    rw [size_toL] at hau hmg
    have h1 : rg (encB o, false) = (o.tree, encN o.pars.length ++ (o.pars.flatMap digB ++ (encT (toL o.auth) ++ (encN o.time.toNat ++ (encT (toL o.msg) ++ [])))), false) := by
      unfold encB
      rw [if_neg (by omega), if_pos k, List.append_nil]
      exact rg_enc c.wf _
    have h2 : rn (encN o.pars.length ++ (o.pars.flatMap digB ++ (encT (toL o.auth) ++ (encN o.time.toNat ++ (encT (toL o.msg) ++ [])))), false) = _ := rn_enc (by have := c.pars.few; omega) _
    have h3 := rD_enc o.pars (encT (toL o.auth) ++ (encN o.time.toNat ++ (encT (toL o.msg) ++ []))) c.pars.wf
    have h4 : rt (encT (toL o.auth) ++ (encN o.time.toNat ++ (encT (toL o.msg) ++ [])), false) = _ := rt_enc (by omega) _
    have h5 : rn (encN o.time.toNat ++ (encT (toL o.msg) ++ []), false) = _ := rn_enc (by omega) _
    have h6 : rt (encT (toL o.msg) ++ [], false) = _ := rt_enc (by omega) _
    simp only [h1, h2, h3, h4, h5, h6]
    obtain ⟨kind, data, ents, tree, pars, auth, time, msg⟩ := o
    simp only at k d e ht0
    subst k d e
    have : ((time.toNat : Nat) : Int) = time := by omega
    simp only [ofL_toL, this]
theorem rE_ok : ∀ (m : Nat) (st : St), (∀ e ∈ (rE m st).1, e.nm.size ≤ st.1.length ∧ WfD e.dg) ∧ (rE m st).2.1.length ≤ st.1.length
  | 0, st => ⟨(fun e h => by cases h), Nat.le_refl _⟩
  | m + 1, st => by
    rw [rE]
    split
    · exact ⟨(fun e h => by cases h), Nat.le_refl _⟩
    · have h1 := rt_len st
      have h2 := rn_len (rt st).2
      have h3 := rg_len (rn (rt st).2).2
      obtain ⟨i1, i2⟩ := rE_ok m (rg (rn (rt st).2).2).2
      refine ⟨fun e he => ?_, by simp only; omega⟩
      rcases List.mem_cons.1 he with rfl | he
      · exact ⟨by simp only [size_ofL]; omega, h3.2⟩
      · have := i1 e he; exact ⟨by omega, this.2⟩
theorem rD_ok : ∀ (m : Nat) (st : St), (∀ d ∈ (rD m st).1, WfD d) ∧ (rD m st).2.1.length ≤ st.1.length
  | 0, st => ⟨(fun e h => by cases h), Nat.le_refl _⟩
  | m + 1, st => by
    rw [rD]
    split
    · exact ⟨(fun e h => by cases h), Nat.le_refl _⟩
    · have h3 := rg_len st
      obtain ⟨i1, i2⟩ := rD_ok m (rg st).2
      refine ⟨fun e he => ?_, by simp only; omega⟩
      rcases List.mem_cons.1 he with rfl | he
      · exact h3.2
      · exact i1 e he
end Go.Proofs.YtmdhlkkekidknaaGreatDoor

namespace Go.Proofs.YtmdhlkkekidknaaGreatDoor
open Go.RowKit

set_option maxHeartbeats 400000 in
theorem zero7_any (d : Dig) (w : World) : Calls Tryz.prog 201 #[digV d] w fun e w' => e = .returned (.bool (decide (d = zD))) ∧ Below w.heap.size w w' := by
  obtain ⟨a, b⟩ := d
  have hde := dig_eq (a, b) zD
  simp only [zD] at hde
  have HB0 : Hid (Below w.heap.size w (w.alloc (.cells #[.int .u64 a, .int .u64 b] 30))) := (Below.refl _ w).alloc (Nat.le_refl _) _
  have hk : Bk (w.alloc (.cells #[.int .u64 a, .int .u64 b] 30)) w.heap.size 30 #[.int .u64 a, .int .u64 b] := Bk.new w _ _
  obtain ⟨x0, x1, _, _⟩ := hk.two
  clear hk
  unfold digV
  simp only
  have HD : Hid (decide ((a, b) = zD) = (a == 0 && b == 0)) := hde.symm
  clear hde
  cases h0 : (a == 0) with
  | false =>
    have HF : Hid (decide ((a, b) = zD) = false) := by show _ = _; rw [HD.out, h0]; rfl
    go_enter Tryz.func201, Tryz.ntmps201
    go_wp2_with fail
    go_ret
    exact ⟨ret_bool HF.out.symm, HB0.out⟩
  | true =>
    cases h1 : (b == 0) with
    | false =>
      have HF : Hid (decide ((a, b) = zD) = false) := by show _ = _; rw [HD.out, h0, h1]; rfl
      go_enter Tryz.func201, Tryz.ntmps201
      go_wp2_with fail
      go_ret
      exact ⟨ret_bool HF.out.symm, HB0.out⟩
    | true =>
      have HF : Hid (decide ((a, b) = zD) = true) := by show _ = _; rw [HD.out, h0, h1]; rfl
      go_enter Tryz.func201, Tryz.ntmps201
      go_wp2_with fail
      go_ret
      exact ⟨ret_bool HF.out.symm, HB0.out⟩
structure UpE (l : List Ent) (k : Nat) : Prop where
  all : ∀ e ∈ l.take k, OkEnt e
  asc : ∀ (j : Nat) a b, j + 1 < k → l[j]? = some a → l[j + 1]? = some b → less a.nm b.nm = true
theorem UpE.start (l : List Ent) : UpE l 0 := ⟨fun e h => by simp at h, fun j a b h => absurd h (by omega)⟩
theorem UpE.step {l : List Ent} {k : Nat} {x : Ent} (h : UpE l k) (hx : l[k]? = some x) (hok : OkEnt x) (hl : ∀ j a, k = j + 1 → l[j]? = some a → less a.nm x.nm = true) : UpE l (k + 1) := by
  refine ⟨fun e he => ?_, fun j a b hj ha hb => ?_⟩
  · rw [take_snoc hx] at he
    rcases List.mem_append.1 he with he | he
    · exact h.all e he
    · rw [List.mem_singleton.1 he]; exact hok
  · by_cases e : j + 1 = k
    · subst e; rw [hx] at hb; cases hb; exact hl j a rfl ha
    · exact h.asc j a b (by omega) ha hb
def ChE (p : Prop) (w : World) (e : Ending) (w' : World) : Prop := ∃ z : Int, e = .returned (.int .i64 z) ∧ (z = 0 ↔ p) ∧ Below w.heap.size w w'
theorem ChE.no {p : Prop} {w w' : World} {z : Int} (hz : z ≠ 0) (hp : ¬ p) (hb : Below w.heap.size w w') : ChE p w (.returned (.int .i64 z)) w' := ⟨z, rfl, ⟨fun e => absurd e hz, fun h => absurd h hp⟩, hb⟩
theorem ChE.yes {p : Prop} {w w' : World} (hp : p) (hb : Below w.heap.size w w') : ChE p w (.returned (.int .i64 0)) w' := ⟨0, rfl, ⟨fun _ => hp, fun _ => rfl⟩, hb⟩
set_option maxRecDepth 100000 in
set_option maxHeartbeats 4000000 in
theorem rentries7_any (A : Option Addr) (n c B : Nat) (l : List Ent) (w : World) (h0 : Sl w B 4 A n (flat enC l)) (hB : B ≤ w.heap.size) (hn : n ≤ maxLen) (hsz : ∀ e ∈ l, e.nm.size ≤ 1000000) (hwf : ∀ e ∈ l, WfD e.dg) :
    Calls Tryz.prog 168 #[.slice A n c] w (ChE (OkEs l) w) := by
  unfold maxLen at hn
  have HL := Lib.hid (h0.len enC_len (by omega))
  have H0 := Lib.hid h0; have HSZ := Lib.hid hsz; have HWF := Lib.hid hwf
  clear h0 hsz hwf
  go_enter Tryz.func168, Tryz.ntmps168
  by_cases hbig : 200 < n
  · have hnz : (200 : Int) < (n : Int) := by omega
    have HN : Hid (¬ OkEs l) := fun h => by have := h.few; have := HL.out; omega
    clear hbig
    go_wp2_with fail
    go_ret
    exact ChE.no (by decide) HN.out (Below.refl _ _)
  have hnz : ¬ (200 : Int) < (n : Int) := by omega
  go_wp2_with fail
  go_loopw [3] (fun i wr => ∃ k : Nat, i = .int .i64 (k : Int) ∧ k ≤ n ∧ Hid (UpE l k) ∧ Hid (Below w.heap.size w wr)) (fun i _ => n - (intOf i).toNat)
  case atStart => exact ⟨0, rfl, Nat.zero_le _, UpE.start l, Below.refl _ _⟩
  case round =>
    obtain ⟨k, rfl, hk, hU, hbw⟩ := hrel
    have zwr := hbw.out.size
    by_cases hlt : k < n
    · have hlz : (k : Int) < (n : Int) := by omega
      obtain ⟨bb, off, en, rfl, hbB, he, y0, y1, y2, y3⟩ := (H0.out.below hbw.out hB).en hlt
      have HE := Lib.hid he
      have HM := Lib.hid (List.mem_of_getElem? he)
      have hsn := HSZ.out en HM.out
      cases hnm : nameB en.nm with
      | false =>
        have HN : Hid (¬ OkEs l) := fun h => by have := (h.all en HM.out).nm; rw [hnm] at this; cases this
        obtain ⟨nm, dir, d1, d2⟩ := en
        simp only at hsn hnm y0 y1 y2 y3
        clear he
        go_wp2_with (first | (go_at_call 116; refine (vname7_any nm _ (by unfold maxLen; omega)).mono ?_; rintro e w1 ⟨rfl, rfl⟩; rw [hnm]))
        go_ret
        exact ChE.no (by decide) HN.out hbw.out
      | true =>
        have HNX : Hid (∀ j, k = j + 1 → ∃ p, l[j]? = some p ∧ wr.cell? ⟨bb, off + j * 4, none⟩ = some (.string p.nm)) := by
          intro j hj
          obtain ⟨bb', off', p, hpe, _, hp, z0, _⟩ := (H0.out.below hbw.out hB).en (k := j) (by omega)
          cases hpe
          exact ⟨p, hp, z0⟩
        have HZ := Lib.hid (fun W => zero7_any en.dg W)
        have HNM := Lib.hid hnm
        have HEQ : Hid (∀ e2 : Ent, e2 = en → l[k]? = some e2) := fun e2 h => by rw [h]; exact HE.out
        obtain ⟨en', hen'⟩ : ∃ e, e = en := ⟨en, rfl⟩
        have HEN := Lib.hid hen'
        obtain ⟨nm, dir, d1, d2⟩ := en
        simp only at hsn hnm y0 y1 y2 y3 HZ HNM
        unfold digV at HZ
        clear he hen'
        go_upto_region 8 with (first | (go_at_call 116; refine (vname7_any nm _ (by unfold maxLen; omega)).mono ?_; rintro e w1 ⟨rfl, rfl⟩; rw [hnm]))
        cases k with
        | zero =>
          have HOR : Hid (∀ j a, (0 : Nat) = j + 1 → l[j]? = some a → less a.nm nm = true) := fun j a h => by omega
          go_quiet (fail)
          go_wp2_with (first | (go_at_call 201; refine (HZ.out _).mono ?_; rintro e w3 ⟨rfl, hb3⟩; refine halt_ ?_))
          refine unhalt ?_
          have HB3 := Lib.hid ((below_drewN hbw.out _).trans (hb3.mono (by have := hbw.out.size; simp; omega)))
          clear hb3
          cases hz : decide (((d1, d2) : Dig) = zD) with
          | true =>
            have HN : Hid (¬ OkEs l) := fun h => (h.all _ HM.out).nz (of_decide_eq_true hz)
            clear hz
            go_wp2_with fail
            go_ret
            exact ChE.no (by decide) HN.out HB3.out
          | false =>
            have HU2 : Hid (UpE l (0 + 1)) := hU.out.step HE.out ⟨HNM.out, HWF.out _ HM.out, of_decide_eq_false hz⟩ HOR.out
            clear hz
            go_wp2_with fail
            go_roundw
            case rel => exact ⟨0 + 1, by go_num, hlt, HU2.out, HB3.out⟩
            case measure => simp [intOf]; omega
        | succ j =>
          obtain ⟨p, HPJ, z0⟩ := HNX.out j rfl
          have HPJ := Lib.hid HPJ
          have hkp : (0 : Int) < ((j + 1 : Nat) : Int) := by omega
          have hw1 : IntKind.i64.wrap (((j + 1 : Nat) : Int) - 1) = (j : Int) := by rw [wrap_sm (by omega) (by omega)]; omega
          have hj1 : ¬ (j : Int) < 0 := by omega
          have hj2 : (j : Int) < (n : Int) := by omega
          have hj3 : ¬ ((j + 1 : Nat) : Int) < 0 := by omega
          have l1 := less_str nm p.nm
          have l2 := less_str p.nm nm
          have l3 := str_dec nm p.nm
          have l4 := str_dec p.nm nm
          cases hls : less p.nm nm with
          | true =>
            have HOR : Hid (∀ i a, (j + 1 : Nat) = i + 1 → l[i]? = some a → less a.nm nm = true) := fun i a h ha => by
              obtain rfl : j = i := by omega
              rw [HPJ.out] at ha; cases ha; exact hls
            rw [lessB_asymm hls] at l1
            rw [hls] at l2
            rw [decide_eq_false (fun e => lessB_ne hls e.symm)] at l3
            rw [decide_eq_false (lessB_ne hls)] at l4
            clear hls
            go_quiet (fail)
            go_wp2_with (first | (go_at_call 201; refine (HZ.out _).mono ?_; rintro e w3 ⟨rfl, hb3⟩; refine halt_ ?_))
            refine unhalt ?_
            have HB3 := Lib.hid ((below_drewN hbw.out _).trans (hb3.mono (by have := hbw.out.size; simp; omega)))
            clear hb3
            cases hz : decide (((d1, d2) : Dig) = zD) with
            | true =>
              have HN : Hid (¬ OkEs l) := fun h => (h.all _ HM.out).nz (of_decide_eq_true hz)
              clear hz
              go_wp2_with fail
              go_ret
              exact ChE.no (by decide) HN.out HB3.out
            | false =>
              have HU2 : Hid (UpE l ((j + 1) + 1)) := hU.out.step HE.out ⟨HNM.out, HWF.out _ HM.out, of_decide_eq_false hz⟩ HOR.out
              clear hz
              go_wp2_with fail
              go_roundw
              case rel => exact ⟨(j + 1) + 1, by go_num, hlt, HU2.out, HB3.out⟩
              case measure => simp [intOf]; omega
          | false =>
            have HN : Hid (¬ OkEs l) := fun h => by
              have := h.asc j p _ HPJ.out HE.out; simp only at this; rw [hls] at this; cases this
            rw [hls] at l2
            cases hl2 : less nm p.nm with
            | true =>
              rw [hl2] at l1
              rw [decide_eq_false (lessB_ne hl2)] at l3
              rw [decide_eq_false (fun e => lessB_ne hl2 e.symm)] at l4
              clear hls hl2
              go_quiet (fail)
              go_wp2_with fail
              go_ret
              exact ChE.no (by decide) HN.out (below_drewN hbw.out _)
            | false =>
              have heq := lessB_conn hls hl2
              rw [hl2] at l1
              rw [decide_eq_true heq.symm] at l3
              rw [decide_eq_true heq] at l4
              clear hls hl2 heq
              go_quiet (fail)
              go_wp2_with fail
              go_ret
              exact ChE.no (by decide) HN.out (below_drewN hbw.out _)
    · have hlz : ¬ (k : Int) < (n : Int) := by omega
      have HOK : Hid (OkEs l) := ⟨by rw [HL.out]; omega, fun e he => hU.out.all e (by rw [List.take_of_length_le (by rw [HL.out]; omega)]; exact he), fun j a b ha hb => hU.out.asc j a b (by have := (List.getElem?_eq_some_iff.1 hb).1; have := HL.out; omega) ha hb⟩
      go_wp2_with fail
      go_ret
      exact ChE.yes HOK.out hbw.out
end Go.Proofs.YtmdhlkkekidknaaGreatDoor

namespace Go.Proofs.YtmdhlkkekidknaaGreatDoor
open Go.RowKit

structure UpP (l : List Dig) (k : Nat) : Prop where
  nz : ∀ d ∈ l.take k, d ≠ zD
  nod : (l.take k).Nodup
theorem UpP.start (l : List Dig) : UpP l 0 := ⟨fun e h => by simp at h, by simp⟩
theorem UpP.step {l : List Dig} {k : Nat} {x : Dig} (h : UpP l k) (hx : l[k]? = some x) (hz : x ≠ zD) (hn : x ∉ l.take k) : UpP l (k + 1) := by
  refine ⟨fun e he => ?_, ?_⟩
  · rw [take_snoc hx] at he
    rcases List.mem_append.1 he with he | he
    · exact h.nz e he
    · rw [List.mem_singleton.1 he]; exact hz
  · rw [take_snoc hx, List.nodup_append]
    exact ⟨h.nod, by simp, fun a ha b hb e => by rw [List.mem_singleton.1 hb] at e; exact hn (e ▸ ha)⟩
set_option maxRecDepth 100000 in
set_option maxHeartbeats 4000000 in
theorem rcommit7_any (o : Ob) (s : Osl) (B : Nat) (w : World) (hm : ObM w B o s) (hB : B ≤ w.heap.size) (hw : WfD o.tree) (hp : ∀ d ∈ o.pars, WfD d) (ha : o.auth.size ≤ 1000000) (hms : o.msg.size ≤ 1000000) (ht0 : 0 ≤ o.time) (ht1 : o.time ≤ 1099511627776) :
    Calls Tryz.prog 169 #[obV o s] w (ChE (OkC o) w) := by
  have HL := Lib.hid hm.plen
  have HP := Lib.hid hm.p
  have hpc := hm.ple; have hpm := hm.pmx
  have HOC : Hid (∀ o' : Ob, o' = o → (OkC o' ↔ OkC o)) := fun o' h => by rw [h]
  have HC0 : Hid (o.tree ≠ zD → OkPs o.pars → nameB o.auth = true → o.msg.size ≤ 200 → OkC o) := fun h1 h2 h3 h4 => ⟨hw, h1, h2, h3, ht0, ht1, h4⟩
  have HWP := Lib.hid hp
  have HZ := Lib.hid (fun W => zero7_any o.tree W)
  obtain ⟨kind, data, ents, ⟨t1, t2⟩, pars, auth, time, msg⟩ := o
  obtain ⟨eA, en, ec, pA, n, pc⟩ := s
  simp only at HL HP hpc hpm HC0 HWP HZ ha hms ht0 ht1
  unfold digV at HZ
  simp only [obV, obC]
  have hq1 : ¬ time < 0 := by omega
  have hq2 : ¬ (1099511627776 : Int) < time := by omega
  have hnm : n ≤ 9223372036854775807 := by unfold maxLen at hpm; omega
  obtain ⟨W0, hW⟩ : ∃ W, w.alloc (.cells #[.int .i64 kind, .string data, .slice eA en ec, .int .u64 t1, .int .u64 t2, .slice pA n pc, .string auth, .int .i64 time, .string msg] 82) = W := ⟨_, rfl⟩
  have HB0 : Hid (Below w.heap.size w W0) := by rw [← hW]; exact (Below.refl _ w).alloc (Nat.le_refl _) _
  have HK : Hid (Bk W0 w.heap.size 82 #[.int .i64 kind, .string data, .slice eA en ec, .int .u64 t1, .int .u64 t2, .slice pA n pc, .string auth, .int .i64 time, .string msg]) := by rw [← hW]; exact Bk.new w _ _
  have zk : w.heap.size < W0.heap.size := HK.out.lt
  obtain ⟨c0, c1, c2, c3, c4, c5, c6, c7, c8⟩ := HK.out.nine
  clear hm hp hw HOC ht0 ht1
  go_enter Tryz.func169, Tryz.ntmps169
  go_wp2_with (first | (go_at_call 201; refine (HZ.out _).mono ?_; rintro e w3 ⟨rfl, hb3⟩; refine halt_ ?_))
  refine unhalt ?_
  have HB3 := Lib.hid (HB0.out.trans (hb3.mono HB0.out.size))
  have HK3 := Lib.hid (HK.out.below hb3 zk)
  have z3 : w.heap.size < w3.heap.size := HK3.out.lt
  clear hb3 hW c0 c1 c2 c3 c4 c5 c6 c7 c8
  obtain ⟨c0, c1, c2, c3, c4, c5, c6, c7, c8⟩ := HK3.out.nine
  cases hz : decide (((t1, t2) : Dig) = zD) with
  | true =>
    have HN : Hid (¬ OkC ⟨kind, data, ents, (t1, t2), pars, auth, time, msg⟩) := fun h => h.nz (of_decide_eq_true hz)
    clear hz
    go_wp2_with fail
    go_ret
    exact ChE.no (by decide) HN.out HB3.out
  | false =>
  have HTZ : Hid ((t1, t2) ≠ zD) := of_decide_eq_false hz
  clear hz
  by_cases hbig : 8 < n
  · have hnz : (8 : Int) < (n : Int) := by omega
    have HN : Hid (¬ OkC ⟨kind, data, ents, (t1, t2), pars, auth, time, msg⟩) := fun h => by have := h.pars.few; have := HL.out; simp only at *; omega
    clear hbig
    go_wp2_with fail
    go_ret
    exact ChE.no (by decide) HN.out HB3.out
  have hnz : ¬ (8 : Int) < (n : Int) := by omega
  go_wp2_with fail
  go_loopw [3] (fun i wr => ∃ k : Nat, i = .int .i64 (k : Int) ∧ k ≤ n ∧ Hid (UpP pars k) ∧ Hid (Below w3.heap.size w3 wr)) (fun i _ => n - (intOf i).toNat)
  case atStart => exact ⟨0, rfl, Nat.zero_le _, UpP.start pars, Below.refl _ _⟩
  case round =>
    obtain ⟨k, rfl, hk, hU, hbw⟩ := hrel
    have HBw : Hid (Below w.heap.size w wr) := HB3.out.trans (hbw.out.mono HB3.out.size)
    have HKr := Lib.hid (HK3.out.below hbw.out z3)
    clear c0 c1 c2 c3 c4 c5 c6 c7 c8
    obtain ⟨c0, c1, c2, c3, c4, c5, c6, c7, c8⟩ := HKr.out.nine
    by_cases hlt : k < n
    · have hlz : (k : Int) < (n : Int) := by omega
      have hk0 : ¬ (k : Int) < 0 := by omega
      obtain ⟨bb, off, d, rfl, hbB, hd, y0, y1⟩ := (HP.out.below HBw.out hB).dg hlt
      have HD := Lib.hid hd
      have HZ2 := Lib.hid (fun W => zero7_any d W)
      obtain ⟨d1, d2⟩ := d
      simp only at y0 y1
      unfold digV at HZ2
      clear hd
      go_wp2_with (first | (go_at_call 201; refine (HZ2.out _).mono ?_; rintro e w6 ⟨rfl, hb3⟩; refine halt_ ?_))
      refine unhalt ?_
      have HB4 := Lib.hid (hbw.out.trans (hb3.mono hbw.out.size))
      clear hb3 c0 c1 c2 c3 c4 c5 c6 c7 c8 y0 y1
      cases hz : decide (((d1, d2) : Dig) = zD) with
      | true =>
        have HN : Hid (¬ OkC ⟨kind, data, ents, (t1, t2), pars, auth, time, msg⟩) := fun h => h.pars.nz _ (List.mem_of_getElem? HD.out) (of_decide_eq_true hz)
        clear hz
        go_wp2_with fail
        go_ret
        exact ChE.no (by decide) HN.out (HB3.out.trans (HB4.out.mono HB3.out.size))
      | false =>
      have HDZ : Hid ((d1, d2) ≠ zD) := of_decide_eq_false hz
      clear hz
      go_wp2_with fail
      have HK4 := Lib.hid (HK3.out.below HB4.out z3)
      have z4 : w.heap.size < w6.heap.size := HK4.out.lt
      have HBW4 : Hid (Below w.heap.size w w6) := HB3.out.trans (HB4.out.mono HB3.out.size)
      go_loopw [4] (fun i wr => ∃ j : Nat, i = .int .i64 (j : Int) ∧ j ≤ k ∧ Hid ((d1, d2) ∉ pars.take j) ∧ Hid (Below w6.heap.size w6 wr)) (fun i _ => k - (intOf i).toNat)
      case atStart => exact ⟨0, rfl, Nat.zero_le _, (fun h => by simp at h), Below.refl _ _⟩
      case round =>
        obtain ⟨j, rfl, hj, hN, hbr⟩ := hrel
        have HBr : Hid (Below w.heap.size w wr) := HBW4.out.trans (hbr.out.mono HBW4.out.size)
        have HB3r : Hid (Below w3.heap.size w3 wr) := HB4.out.trans (hbr.out.mono HB4.out.size)
        obtain ⟨c0, c1, c2, c3, c4, c5, c6, c7, c8⟩ := (HK4.out.below hbr.out z4).nine
        by_cases hjl : j < k
        · have hjz : (j : Int) < (k : Int) := by omega
          have hjn : (j : Int) < (n : Int) := by omega
          obtain ⟨bb', off', d', hpe, _, hd', y0, y1⟩ := (HP.out.below HBr.out hB).dg (k := j) (by omega)
          cases hpe
          obtain ⟨bb', off', d3, hpe, _, hd3, u0, u1⟩ := (HP.out.below HBr.out hB).dg (k := k) hlt
          cases hpe
          have hdd : d3 = (d1, d2) := by rw [HD.out] at hd3; exact (Option.some.inj hd3).symm
          subst hdd
          have HD' := Lib.hid hd'
          have hde := dig_eq d' (d1, d2)
          simp only at u0 u1 hde
          clear hd' hd3
          by_cases e : d' = (d1, d2)
          · rw [decide_eq_true e] at hde
            have HN2 : Hid (¬ OkC ⟨kind, data, ents, (t1, t2), pars, auth, time, msg⟩) := fun h => by
              have h1 := List.getElem?_eq_some_iff.1 HD'.out
              have h2 := List.getElem?_eq_some_iff.1 HD.out
              have := (List.getElem_inj (h₀ := h1.1) (h₁ := h2.1) h.pars.nod).1 (by rw [h1.2, h2.2, e])
              omega
            clear e
            obtain ⟨e1, e2⟩ := d'
            simp only at y0 y1 hde
            go_wp2_with fail
            go_quiet (fail)
            go_wp2_with fail
            go_ret
            exact ChE.no (by decide) HN2.out (below_drewN HBr.out _)
          · rw [decide_eq_false e] at hde
            have HN2 : Hid ((d1, d2) ∉ pars.take (j + 1)) := fun hm => by
              rw [take_snoc HD'.out] at hm
              rcases List.mem_append.1 hm with hm | hm
              · exact hN.out hm
              · exact e (List.mem_singleton.1 hm).symm
            clear e
            obtain ⟨e1, e2⟩ := d'
            simp only at y0 y1 hde
            go_wp2_with fail
            go_quiet (fail)
            go_wp2_with fail
            go_roundw
            case rel => exact ⟨j + 1, by go_num, hjl, HN2.out, below_drewN hbr.out _⟩
            case measure => simp [intOf]; omega
        · have hjz : ¬ (j : Int) < (k : Int) := by omega
          have hjk : j = k := by omega
          subst hjk
          have HU2 := Lib.hid (hU.out.step HD.out HDZ.out hN.out)
          go_wp2_with fail
          go_roundw
          case rel => exact ⟨j + 1, by go_num, hlt, HU2.out, HB3r.out⟩
          case measure => simp [intOf]; omega
    · have hlz : ¬ (k : Int) < (n : Int) := by omega
      have HPS : Hid (OkPs pars) := by
        have h1 := hU.out
        have e : pars.take k = pars := List.take_of_length_le (by rw [HL.out]; omega)
        exact ⟨by rw [HL.out]; omega, HWP.out, fun d hd => h1.nz d (by rw [e]; exact hd), by have := h1.nod; rwa [e] at this⟩
      cases hnm2 : nameB auth with
      | false =>
        have HN : Hid (¬ OkC ⟨kind, data, ents, (t1, t2), pars, auth, time, msg⟩) := fun h => by have := h.auth; simp only at this; rw [hnm2] at this; cases this
        go_wp2_with (first | (go_at_call 116; refine (vname7_any auth _ (by unfold maxLen; omega)).mono ?_; rintro e w1 ⟨rfl, rfl⟩; rw [hnm2]))
        go_ret
        exact ChE.no (by decide) HN.out HBw.out
      | true =>
        have HNA := Lib.hid hnm2
        by_cases hml : 200 < msg.size
        · have hmz : (200 : Int) < (msg.size : Int) := by omega
          have HN : Hid (¬ OkC ⟨kind, data, ents, (t1, t2), pars, auth, time, msg⟩) := fun h => by have := h.msg; simp only at this; omega
          clear hml
          go_wp2_with (first | (go_at_call 116; refine (vname7_any auth _ (by unfold maxLen; omega)).mono ?_; rintro e w1 ⟨rfl, rfl⟩; rw [hnm2]))
          go_ret
          exact ChE.no (by decide) HN.out HBw.out
        · have hmz : ¬ (200 : Int) < (msg.size : Int) := by omega
          have HY := Lib.hid (HC0.out HTZ.out HPS.out HNA.out (by omega))
          clear hml
          go_wp2_with (first | (go_at_call 116; refine (vname7_any auth _ (by unfold maxLen; omega)).mono ?_; rintro e w1 ⟨rfl, rfl⟩; rw [hnm2]))
          go_ret
          exact ChE.yes HY.out HBw.out
end Go.Proofs.YtmdhlkkekidknaaGreatDoor

namespace Go.Proofs.YtmdhlkkekidknaaGreatDoor
open Go.RowKit

structure OnlyP (o : Ob) : Prop where
  d : o.kind = 2 ∨ o.kind = 3 → o.data = ⟨#[]⟩
  e : o.kind ≠ 2 → o.ents = []
  c : o.kind = 3 ∨ NoC o
theorem OkF.only {o : Ob} (h : OkF o) : OnlyP o := by
  cases h with
  | blob k e c d => exact ⟨fun h => by omega, fun _ => e, .inr c⟩
  | tree k d c e => exact ⟨fun _ => d, fun h => absurd k h, .inr c⟩
  | commit k d e c => exact ⟨fun _ => d, fun _ => e, .inl k⟩
theorem OkF.of2 {o : Ob} (h : OnlyP o) (k : o.kind = 2) : OkF o ↔ OkEs o.ents := by
  refine ⟨fun g => ?_, fun g => .tree k (h.d (.inl k)) ?_ g⟩
  · cases g with
    | blob k' => omega
    | tree _ _ _ e => exact e
    | commit k' => omega
  · rcases h.c with h | h
    · omega
    · exact h
theorem OkF.of3 {o : Ob} (h : OnlyP o) (k : o.kind = 3) : OkF o ↔ OkC o := by
  refine ⟨fun g => ?_, fun g => .commit k (h.d (.inr k)) (h.e (by omega)) g⟩
  cases g with
  | blob k' => omega
  | tree k' => omega
  | commit _ _ _ c => exact c
theorem OkF.of14 {o : Ob} (h : OnlyP o) (k : o.kind = 1 ∨ o.kind = 4) : OkF o ↔ o.data.size ≤ 65536 := by
  refine ⟨fun g => ?_, fun g => .blob k (h.e (by omega)) ?_ g⟩
  · cases g with
    | blob _ _ _ d => exact d
    | tree k' => omega
    | commit k' => omega
  · rcases h.c with h | h
    · omega
    · exact h
def OnlE (o : Ob) (w : World) (e : Ending) (w' : World) : Prop := ∃ b : Bool, e = .returned (.bool b) ∧ (b = true ↔ OnlyP o) ∧ Below w.heap.size w w'
theorem OnlE.no {o : Ob} {w w' : World} (h : ¬ OnlyP o) (hb : Below w.heap.size w w') : OnlE o w (.returned (.bool false)) w' := ⟨false, rfl, ⟨(fun e => by cases e), fun g => absurd g h⟩, hb⟩
theorem OnlE.yes {o : Ob} {w w' : World} (h : OnlyP o) (hb : Below w.heap.size w w') : OnlE o w (.returned (.bool true)) w' := ⟨true, rfl, ⟨fun _ => h, fun _ => rfl⟩, hb⟩
set_option maxRecDepth 100000 in
set_option maxHeartbeats 8000000 in
theorem only7_any (o : Ob) (s : Osl) (B : Nat) (w : World) (hm : ObM w B o s) : Calls Tryz.prog 167 #[obV o s] w (OnlE o w) := by
  have hel := hm.elen; have hpl := hm.plen
  have HZ := Lib.hid (fun W => zero7_any o.tree W)
  obtain ⟨kind, data, ents, ⟨t1, t2⟩, pars, auth, time, msg⟩ := o
  obtain ⟨eA, en, ec, pA, n, pc⟩ := s
  simp only at hel hpl HZ
  unfold digV at HZ
  simp only [obV, obC]
  obtain ⟨W0, hW⟩ : ∃ W, w.alloc (.cells #[.int .i64 kind, .string data, .slice eA en ec, .int .u64 t1, .int .u64 t2, .slice pA n pc, .string auth, .int .i64 time, .string msg] 82) = W := ⟨_, rfl⟩
  have HB0 : Hid (Below w.heap.size w W0) := by rw [← hW]; exact (Below.refl _ w).alloc (Nat.le_refl _) _
  have HK : Hid (Bk W0 w.heap.size 82 #[.int .i64 kind, .string data, .slice eA en ec, .int .u64 t1, .int .u64 t2, .slice pA n pc, .string auth, .int .i64 time, .string msg]) := by rw [← hW]; exact Bk.new w _ _
  have zk : w.heap.size < W0.heap.size := HK.out.lt
  obtain ⟨c0, c1, c2, c3, c4, c5, c6, c7, c8⟩ := HK.out.nine
  have HEL : Hid (ents.length = en) := hel
  have HPL : Hid (pars.length = n) := hpl
  have hd : (data.toList == []) = decide (data = ⟨#[]⟩) := str_lit data _
  have hau : (auth.toList == []) = decide (auth = ⟨#[]⟩) := str_lit auth _
  have hmg : (msg.toList == []) = decide (msg = ⟨#[]⟩) := str_lit msg _
  clear hm hel hpl
  by_cases k2 : kind = 2
  · have q2 : (kind == 2) = true := by simp [k2]
    have q2n : (kind != 2) = false := by simp [k2]
    have q3 : (kind == 3) = false := by simp [k2]
    by_cases hdz : data = ⟨#[]⟩
    · rw [decide_eq_true hdz] at hd
      have HP1 : Hid (NoC ⟨kind, data, ents, (t1, t2), pars, auth, time, msg⟩ → OnlyP ⟨kind, data, ents, (t1, t2), pars, auth, time, msg⟩) := fun h => ⟨fun _ => hdz, fun h' => absurd k2 h', .inr h⟩
      have HP2 : Hid (OnlyP ⟨kind, data, ents, (t1, t2), pars, auth, time, msg⟩ → NoC ⟨kind, data, ents, (t1, t2), pars, auth, time, msg⟩) := fun h => by
        rcases h.c with h | h
        · simp only at h; omega
        · exact h
      clear hdz k2
      go_enter Tryz.func167, Tryz.ntmps167
      cases hz : decide (((t1, t2) : Dig) = zD) with
      | false =>
        have HF : Hid (¬ OnlyP ⟨kind, data, ents, (t1, t2), pars, auth, time, msg⟩) := fun h => of_decide_eq_false hz (HP2.out h).tree
        go_wp2_with (first | (go_at_call 201; refine (HZ.out _).mono ?_; rintro e w3 ⟨rfl, hb3⟩; rw [hz]; refine halt_ ?_))
        refine unhalt ?_
        have HB3 := Lib.hid (HB0.out.trans (hb3.mono HB0.out.size))
        have HK3 := Lib.hid (HK.out.below hb3 zk)
        clear hb3 hW c0 c1 c2 c3 c4 c5 c6 c7 c8
        obtain ⟨c0, c1, c2, c3, c4, c5, c6, c7, c8⟩ := HK3.out.nine
        go_wp2_with fail
        go_ret
        exact OnlE.no HF.out HB3.out
      | true =>
      have HTZ : Hid (((t1, t2) : Dig) = zD) := Lib.hid (of_decide_eq_true hz)
      go_wp2_with (first | (go_at_call 201; refine (HZ.out _).mono ?_; rintro e w3 ⟨rfl, hb3⟩; rw [hz]; refine halt_ ?_))
      refine unhalt ?_
      have HB3 := Lib.hid (HB0.out.trans (hb3.mono HB0.out.size))
      have HK3 := Lib.hid (HK.out.below hb3 zk)
      clear hb3 hW c0 c1 c2 c3 c4 c5 c6 c7 c8
      obtain ⟨c0, c1, c2, c3, c4, c5, c6, c7, c8⟩ := HK3.out.nine
      by_cases hn0 : n = 0
      case neg =>
        have HF : Hid (¬ OnlyP ⟨kind, data, ents, (t1, t2), pars, auth, time, msg⟩) := fun h => by have := (HP2.out h).pars; simp only at this; have h2 := HPL.out; rw [this] at h2; exact hn0 h2.symm
        have hnq : ((n : Int) == 0) = false := by rw [beq_eq_false_iff_ne]; omega
        clear hn0
        go_wp2_with fail
        go_ret
        exact OnlE.no HF.out HB3.out
      subst hn0
      by_cases haz : auth = ⟨#[]⟩
      case neg =>
        have HF : Hid (¬ OnlyP ⟨kind, data, ents, (t1, t2), pars, auth, time, msg⟩) := fun h => haz (HP2.out h).auth
        rw [decide_eq_false haz] at hau
        clear haz
        go_wp2_with fail
        go_ret
        exact OnlE.no HF.out HB3.out
      rw [decide_eq_true haz] at hau
      have HAZ := Lib.hid haz
      clear haz
      by_cases htz : time = 0
      case neg =>
        have HF : Hid (¬ OnlyP ⟨kind, data, ents, (t1, t2), pars, auth, time, msg⟩) := fun h => htz (HP2.out h).time
        have htq : (time == 0) = false := by rw [beq_eq_false_iff_ne]; exact htz
        clear htz
        go_wp2_with fail
        go_ret
        exact OnlE.no HF.out HB3.out
      have htq : (time == 0) = true := by simp [htz]
      have HTM := Lib.hid htz
      clear htz
      by_cases hmz : msg = ⟨#[]⟩
      case neg =>
        have HF : Hid (¬ OnlyP ⟨kind, data, ents, (t1, t2), pars, auth, time, msg⟩) := fun h => hmz (HP2.out h).msg
        rw [decide_eq_false hmz] at hmg
        clear hmz
        go_wp2_with fail
        go_ret
        exact OnlE.no HF.out HB3.out
      rw [decide_eq_true hmz] at hmg
      have HT : Hid (OnlyP ⟨kind, data, ents, (t1, t2), pars, auth, time, msg⟩) := HP1.out ⟨HTZ.out, List.eq_nil_of_length_eq_zero HPL.out, HAZ.out, HTM.out, hmz⟩
      clear hmz
      go_wp2_with fail
      go_ret
      exact OnlE.yes HT.out HB3.out
    · have HF : Hid (¬ OnlyP ⟨kind, data, ents, (t1, t2), pars, auth, time, msg⟩) := fun h => hdz (h.d (.inl k2))
      rw [decide_eq_false hdz] at hd
      clear hdz k2
      go_enter Tryz.func167, Tryz.ntmps167
      go_wp2_with fail
      go_ret
      exact OnlE.no HF.out HB0.out
  · have q2 : (kind == 2) = false := by simp [k2]
    have q2n : (kind != 2) = true := by simp [k2]
    by_cases hez : en = 0
    · subst hez
      have HEZ : Hid (ents = []) := List.eq_nil_of_length_eq_zero HEL.out
      by_cases k3 : kind = 3
      · have q3 : (kind == 3) = true := by simp [k3]
        by_cases hdz : data = ⟨#[]⟩
        · rw [decide_eq_true hdz] at hd
          have HT : Hid (OnlyP ⟨kind, data, ents, (t1, t2), pars, auth, time, msg⟩) := ⟨fun _ => hdz, fun _ => HEZ.out, .inl k3⟩
          clear hdz k2 k3
          go_enter Tryz.func167, Tryz.ntmps167
          go_wp2_with fail
          go_ret
          exact OnlE.yes HT.out HB0.out
        · have HF : Hid (¬ OnlyP ⟨kind, data, ents, (t1, t2), pars, auth, time, msg⟩) := fun h => hdz (h.d (.inr k3))
          rw [decide_eq_false hdz] at hd
          clear hdz k2 k3
          go_enter Tryz.func167, Tryz.ntmps167
          go_wp2_with fail
          go_ret
          exact OnlE.no HF.out HB0.out
      · have q3 : (kind == 3) = false := by simp [k3]
        have HP1 : Hid (NoC ⟨kind, data, ents, (t1, t2), pars, auth, time, msg⟩ → OnlyP ⟨kind, data, ents, (t1, t2), pars, auth, time, msg⟩) := fun h => ⟨fun h' => by simp only at h'; omega, fun _ => HEZ.out, .inr h⟩
        have HP2 : Hid (OnlyP ⟨kind, data, ents, (t1, t2), pars, auth, time, msg⟩ → NoC ⟨kind, data, ents, (t1, t2), pars, auth, time, msg⟩) := fun h => by
          rcases h.c with h | h
          · exact absurd h k3
          · exact h
        clear k2 k3 hd
        go_enter Tryz.func167, Tryz.ntmps167
        cases hz : decide (((t1, t2) : Dig) = zD) with
        | false =>
          have HF : Hid (¬ OnlyP ⟨kind, data, ents, (t1, t2), pars, auth, time, msg⟩) := fun h => of_decide_eq_false hz (HP2.out h).tree
          go_wp2_with (first | (go_at_call 201; refine (HZ.out _).mono ?_; rintro e w3 ⟨rfl, hb3⟩; rw [hz]; refine halt_ ?_))
          refine unhalt ?_
          have HB3 := Lib.hid (HB0.out.trans (hb3.mono HB0.out.size))
          have HK3 := Lib.hid (HK.out.below hb3 zk)
          clear hb3 hW c0 c1 c2 c3 c4 c5 c6 c7 c8
          obtain ⟨c0, c1, c2, c3, c4, c5, c6, c7, c8⟩ := HK3.out.nine
          go_wp2_with fail
          go_ret
          exact OnlE.no HF.out HB3.out
        | true =>
        have HTZ : Hid (((t1, t2) : Dig) = zD) := Lib.hid (of_decide_eq_true hz)
        go_wp2_with (first | (go_at_call 201; refine (HZ.out _).mono ?_; rintro e w3 ⟨rfl, hb3⟩; rw [hz]; refine halt_ ?_))
        refine unhalt ?_
        have HB3 := Lib.hid (HB0.out.trans (hb3.mono HB0.out.size))
        have HK3 := Lib.hid (HK.out.below hb3 zk)
        clear hb3 hW c0 c1 c2 c3 c4 c5 c6 c7 c8
        obtain ⟨c0, c1, c2, c3, c4, c5, c6, c7, c8⟩ := HK3.out.nine
        by_cases hn0 : n = 0
        case neg =>
          have HF : Hid (¬ OnlyP ⟨kind, data, ents, (t1, t2), pars, auth, time, msg⟩) := fun h => by have := (HP2.out h).pars; simp only at this; have h2 := HPL.out; rw [this] at h2; exact hn0 h2.symm
          have hnq : ((n : Int) == 0) = false := by rw [beq_eq_false_iff_ne]; omega
          clear hn0
          go_wp2_with fail
          go_ret
          exact OnlE.no HF.out HB3.out
        subst hn0
        by_cases haz : auth = ⟨#[]⟩
        case neg =>
          have HF : Hid (¬ OnlyP ⟨kind, data, ents, (t1, t2), pars, auth, time, msg⟩) := fun h => haz (HP2.out h).auth
          rw [decide_eq_false haz] at hau
          clear haz
          go_wp2_with fail
          go_ret
          exact OnlE.no HF.out HB3.out
        rw [decide_eq_true haz] at hau
        have HAZ := Lib.hid haz
        clear haz
        by_cases htz : time = 0
        case neg =>
          have HF : Hid (¬ OnlyP ⟨kind, data, ents, (t1, t2), pars, auth, time, msg⟩) := fun h => htz (HP2.out h).time
          have htq : (time == 0) = false := by rw [beq_eq_false_iff_ne]; exact htz
          clear htz
          go_wp2_with fail
          go_ret
          exact OnlE.no HF.out HB3.out
        have htq : (time == 0) = true := by simp [htz]
        have HTM := Lib.hid htz
        clear htz
        by_cases hmz : msg = ⟨#[]⟩
        case neg =>
          have HF : Hid (¬ OnlyP ⟨kind, data, ents, (t1, t2), pars, auth, time, msg⟩) := fun h => hmz (HP2.out h).msg
          rw [decide_eq_false hmz] at hmg
          clear hmz
          go_wp2_with fail
          go_ret
          exact OnlE.no HF.out HB3.out
        rw [decide_eq_true hmz] at hmg
        have HT : Hid (OnlyP ⟨kind, data, ents, (t1, t2), pars, auth, time, msg⟩) := HP1.out ⟨HTZ.out, List.eq_nil_of_length_eq_zero HPL.out, HAZ.out, HTM.out, hmz⟩
        clear hmz
        go_wp2_with fail
        go_ret
        exact OnlE.yes HT.out HB3.out
    · have hen : (0 : Int) < (en : Int) := by omega
      have HF : Hid (¬ OnlyP ⟨kind, data, ents, (t1, t2), pars, auth, time, msg⟩) := fun h => by have := h.e k2; simp only at this; have h2 := HEL.out; rw [this] at h2; exact hez h2.symm
      clear hez k2
      by_cases k3 : kind = 3
      · have q3 : (kind == 3) = true := by simp [k3]
        clear k3
        by_cases hdz : data = ⟨#[]⟩
        · rw [decide_eq_true hdz] at hd
          clear hdz
          go_enter Tryz.func167, Tryz.ntmps167
          go_wp2_with fail
          go_ret
          exact OnlE.no HF.out HB0.out
        · rw [decide_eq_false hdz] at hd
          clear hdz
          go_enter Tryz.func167, Tryz.ntmps167
          go_wp2_with fail
          go_ret
          exact OnlE.no HF.out HB0.out
      · have q3 : (kind == 3) = false := by simp [k3]
        clear k3 hd
        go_enter Tryz.func167, Tryz.ntmps167
        go_wp2_with fail
        go_ret
        exact OnlE.no HF.out HB0.out
set_option maxRecDepth 100000 in
set_option maxHeartbeats 4000000 in
theorem fields7_any (o : Ob) (s : Osl) (B : Nat) (w : World) (hm : ObM w B o s) (hB : B ≤ w.heap.size) (hw : WfD o.tree) (hp : ∀ d ∈ o.pars, WfD d) (ha : o.auth.size ≤ 1000000) (hms : o.msg.size ≤ 1000000) (ht0 : 0 ≤ o.time) (ht1 : o.time ≤ 1099511627776)
    (hes : ∀ e ∈ o.ents, e.nm.size ≤ 1000000) (hew : ∀ e ∈ o.ents, WfD e.dg) :
    Calls Tryz.prog 121 #[obV o s] w (ChE (OkF o) w) := by
  have HM := Lib.hid hm
  have HO := Lib.hid (fun W => only7_any o s B W)
  have HC := Lib.hid (fun W h hb => rcommit7_any o s B W h hb hw hp ha hms ht0 ht1)
  have HE := Lib.hid (fun W (h : ObM W B o s) hb => rentries7_any s.eA s.en s.ec B o.ents W h.e hb (Nat.le_trans h.ele h.emx) hes hew)
  have HF2 := Lib.hid (fun h k => OkF.of2 (o := o) h k)
  have HF3 := Lib.hid (fun h k => OkF.of3 (o := o) h k)
  have HF1 := Lib.hid (fun h k => OkF.of14 (o := o) h k)
  have HKL := Lib.hid (fun h => OkF.kind_le (o := o) h)
  have HON := Lib.hid (fun h => OkF.only (o := o) h)
  obtain ⟨kind, data, ents, ⟨t1, t2⟩, pars, auth, time, msg⟩ := o
  obtain ⟨eA, en, ec, pA, n, pc⟩ := s
  simp only [obV, obC] at HO HC HE ⊢
  simp only at HF1 HF2 HF3 HKL
  obtain ⟨W0, hW⟩ : ∃ W, w.alloc (.cells #[.int .i64 kind, .string data, .slice eA en ec, .int .u64 t1, .int .u64 t2, .slice pA n pc, .string auth, .int .i64 time, .string msg] 82) = W := ⟨_, rfl⟩
  have HB0 : Hid (Below w.heap.size w W0) := by rw [← hW]; exact (Below.refl _ w).alloc (Nat.le_refl _) _
  have HK : Hid (Bk W0 w.heap.size 82 #[.int .i64 kind, .string data, .slice eA en ec, .int .u64 t1, .int .u64 t2, .slice pA n pc, .string auth, .int .i64 time, .string msg]) := by rw [← hW]; exact Bk.new w _ _
  have zk : w.heap.size < W0.heap.size := HK.out.lt
  obtain ⟨c0, c1, c2, c3, c4, c5, c6, c7, c8⟩ := HK.out.nine
  clear hm hw hp ha hms ht0 ht1 hes hew
  go_enter Tryz.func121, Tryz.ntmps121
  by_cases hk1 : kind < 1
  · have HN : Hid (¬ OkF ⟨kind, data, ents, (t1, t2), pars, auth, time, msg⟩) := fun h => by have := (HKL.out h).1; omega
    go_wp2_with fail
    go_ret
    exact ChE.no (by decide) HN.out HB0.out
  by_cases hk4 : 4 < kind
  · have HN : Hid (¬ OkF ⟨kind, data, ents, (t1, t2), pars, auth, time, msg⟩) := fun h => by have := (HKL.out h).2; omega
    go_wp2_with fail
    go_ret
    exact ChE.no (by decide) HN.out HB0.out
  go_wp2_with fail
  refine (HO.out W0 (HM.out.below (HB0.out.mono hB) (Nat.le_refl _))).mono ?_
  rintro e w1 ⟨b, rfl, hb, hb1⟩
  have HBO := Lib.hid hb
  have HB1 : Hid (Below w.heap.size w w1) := HB0.out.trans (hb1.mono HB0.out.size)
  have HK1 := Lib.hid (HK.out.below hb1 zk)
  clear hb hb1 hW c0 c1 c2 c3 c4 c5 c6 c7 c8
  obtain ⟨c0, c1, c2, c3, c4, c5, c6, c7, c8⟩ := HK1.out.nine
  cases b with
  | false =>
    have HN : Hid (¬ OkF ⟨kind, data, ents, (t1, t2), pars, auth, time, msg⟩) := fun h => by have := HBO.out.2 (HON.out h); cases this
    go_wp2_with fail
    go_ret
    exact ChE.no (by decide) HN.out HB1.out
  | true =>
  have HOP := Lib.hid (HBO.out.1 rfl)
  by_cases k2 : kind = 2
  · have q2 : (kind == 2) = true := by simp [k2]
    have HI := Lib.hid (HF2.out HOP.out k2)
    clear k2
    go_wp2_with (first | (go_at_call 168; refine (HE.out w1 (HM.out.below (HB1.out.mono hB) (Nat.le_refl _)) (by have := HB1.out.size; omega)).mono ?_; rintro e w2 ⟨z, rfl, hz, hb2⟩))
    go_ret
    exact ⟨z, rfl, hz.trans HI.out.symm, HB1.out.trans (hb2.mono HB1.out.size)⟩
  · have q2 : (kind == 2) = false := by simp [k2]
    by_cases k3 : kind = 3
    · have q3 : (kind == 3) = true := by simp [k3]
      have HI := Lib.hid (HF3.out HOP.out k3)
      clear k2 k3
      go_wp2_with (first | (go_at_call 169; refine (HC.out w1 (HM.out.below (HB1.out.mono hB) (Nat.le_refl _)) (by have := HB1.out.size; omega)).mono ?_; rintro e w2 ⟨z, rfl, hz, hb2⟩))
      go_ret
      exact ⟨z, rfl, hz.trans HI.out.symm, HB1.out.trans (hb2.mono HB1.out.size)⟩
    · have q3 : (kind == 3) = false := by simp [k3]
      have HI := Lib.hid (HF1.out HOP.out (by omega))
      clear k2 k3
      by_cases hdl : 65536 < data.size
      · have hdz : (65536 : Int) < (data.size : Int) := by omega
        have HN : Hid (¬ OkF ⟨kind, data, ents, (t1, t2), pars, auth, time, msg⟩) := fun h => by have := HI.out.1 h; omega
        clear hdl
        go_wp2_with fail
        go_ret
        exact ChE.no (by decide) HN.out HB1.out
      · have hdz : ¬ (65536 : Int) < (data.size : Int) := by omega
        have HY : Hid (OkF ⟨kind, data, ents, (t1, t2), pars, auth, time, msg⟩) := HI.out.2 (by omega)
        clear hdl
        go_wp2_with fail
        go_ret
        exact ChE.yes HY.out HB1.out
end Go.Proofs.YtmdhlkkekidknaaGreatDoor

namespace Go.Proofs.YtmdhlkkekidknaaGreatDoor
open Go.RowKit

def Lf (D : Bytes) (p : Nat → Bool) : Bytes := (List.range 16).map fun j => if p j then D.getD j 0 else 0
theorem Lf_len (D : Bytes) (p : Nat → Bool) : (Lf D p).length = 16 := by simp [Lf]
theorem Lf_set (D : Bytes) (p p' : Nat → Bool) (q : Nat) (b : UInt8) (hb : D[q]? = some b) (hp : ∀ j, p' j = (p j || j == q)) : (Lf D p).set q b = Lf D p' := by
  apply List.ext_getElem?
  intro j
  unfold Lf
  rw [List.getElem?_set]
  by_cases hj : j < 16
  · simp only [List.length_map, List.length_range, List.getElem?_map, List.getElem?_range hj, Option.map_some, hp j]
    by_cases e : q = j
    · subst e
      simp [hj, List.getD, hb]
    · have : (j == q) = false := by rw [beq_eq_false_iff_ne]; exact fun h => e h.symm
      simp [e, this]
  · have h1 : (List.range 16)[j]? = none := by rw [List.getElem?_eq_none]; simp; omega
    simp only [List.length_map, List.length_range, List.getElem?_map, h1, Option.map_none]
    split
    · rename_i h; subst h; simp [hj]
    · rfl
theorem Lf_all (D : Bytes) (hD : D.length = 16) (p : Nat → Bool) (hp : ∀ j, j < 16 → p j = true) : Lf D p = D := by
  apply List.ext_getElem?
  intro j
  unfold Lf
  by_cases hj : j < 16
  · simp [List.getElem?_range hj, hp j hj, List.getD, List.getElem?_eq_getElem (show j < D.length by omega)]
  · rw [List.getElem?_eq_none (by simp; omega), List.getElem?_eq_none (by omega)]
theorem bc_set (l : Bytes) (q : Nat) (b : UInt8) : (bc (l.set q b)).toArray = (bc l).toArray.setIfInBounds q (.int .u8 b.toNat) := by
  apply Array.ext'
  simp [bc, List.map_set]
def pw (k t : Nat) (j : Nat) : Bool := decide (j < 8 * k ∨ (8 * k + 8 - t ≤ j ∧ j < 8 * k + 8))

def zeros16 : Array Value := Array.replicate 16 (.int .u8 0)
theorem mk16 (w : World) : (Instr.makeSlice 161 (.int .i64 16) (.int .i64 16)).run Tryz.prog w = .ok (.slice (some ⟨w.heap.size, 0, none⟩) 16 16) (w.alloc (.cells zeros16 5)) := by kernel_rfl
theorem zeros_Lf (D : Bytes) : zeros16 = (bc (Lf D (pw 0 0))).toArray := by
  have : Lf D (pw 0 0) = List.replicate 16 0 := by
    apply List.ext_getElem?
    intro j
    unfold Lf
    by_cases hj : j < 16
    · have h0 : pw 0 0 j = false := by
        simp only [pw, decide_eq_false_iff_not]; omega
      rw [List.getElem?_replicate, if_pos hj, List.getElem?_map, List.getElem?_range hj, Option.map_some, h0]
      rfl
    · rw [List.getElem?_eq_none (by simp; omega), List.getElem?_eq_none (by simp; omega)]
  rw [this]
  rfl
theorem pw_next (k j : Nat) : pw (k + 1) 0 j = pw k 8 j := by
  simp only [pw, decide_eq_decide]; omega
theorem pw_step {k t : Nat} (ht : t < 8) (j : Nat) : pw k (t + 1) j = (pw k t j || j == 8 * k + (7 - t)) := by
  simp only [pw]
  rw [Bool.eq_iff_iff]
  simp
  omega

set_option maxRecDepth 100000 in
set_option maxHeartbeats 4000000 in
theorem refBytes_any (d : Dig) (hd : WfD d) (w : World) : Calls Tryz.prog 172 #[digV d] w fun e w' => e = .returned (.string (ofL (digB d))) ∧ Below w.heap.size w w' := by
  obtain ⟨x, y⟩ := d
  obtain ⟨hx0, hx1, hy0, hy1⟩ := hd
  simp only at hx0 hx1 hy0 hy1
  obtain ⟨x, rfl⟩ := Int.eq_ofNat_of_zero_le hx0
  obtain ⟨y, rfl⟩ := Int.eq_ofNat_of_zero_le hy0
  have HX1 := Lib.hid hx1; have HY1 := Lib.hid hy1; clear hx0 hx1 hy0 hy1
  show Calls Tryz.prog 172 #[.agg #[.int .u64 x, .int .u64 y]] w _
  have hmk := mk16
  have K0 : Bk ((w.alloc (.cells #[.int .u64 x, .int .u64 y] 30)).alloc (.cells zeros16 5)) w.heap.size 30 #[.int .u64 x, .int .u64 y] := (Bk.new w 30 _).alloc _
  have K1 : Bk ((w.alloc (.cells #[.int .u64 x, .int .u64 y] 30)).alloc (.cells zeros16 5)) (w.heap.size + 1) 5 (bc (Lf (digB ((x : Int), (y : Int))) (pw 0 0))).toArray := by
    have := Bk.new (w.alloc (.cells #[.int .u64 x, .int .u64 y] 30)) 5 zeros16
    rw [World.size_alloc, zeros_Lf (digB ((x : Int), (y : Int)))] at this
    rw [zeros_Lf (digB ((x : Int), (y : Int)))]
    exact this
  have HB : Hid (Below w.heap.size w ((w.alloc (.cells #[.int .u64 x, .int .u64 y] 30)).alloc (.cells zeros16 5))) := ((Below.refl _ w).alloc (Nat.le_refl _) _).alloc (by simp) _
  have HK0 := Lib.hid K0; have HK1 := Lib.hid K1; clear K0 K1
  go_enter Tryz.func172, Tryz.ntmps172
  go_wp2
  go_loopw [4] (fun i wr => ∃ k : Nat, k ≤ 2 ∧ i = .int .i64 k ∧ Hid (Bk wr w.heap.size 30 #[.int .u64 x, .int .u64 y]) ∧ Hid (Bk wr (w.heap.size + 1) 5 (bc (Lf (digB ((x : Int), (y : Int))) (pw k 0))).toArray) ∧ Hid (Below w.heap.size w wr)) (fun i _ => 2 - (intOf i).toNat)
  case atStart => exact ⟨0, by omega, rfl, HK0.out, HK1.out, HB.out⟩
  case round =>
    obtain ⟨k, hk, rfl, J0, J1, hB⟩ := hrel
    by_cases hlt2 : k < 2
    · have hlz : (k : Int) < 2 := by omega
      obtain ⟨z, hz, hix, hby⟩ : ∃ z : Nat, Hid (z < 18446744073709551616) ∧ wr.cell? ⟨w.heap.size, k, none⟩ = some (.int .u64 (z : Int)) ∧ (∀ j, j < 8 → (digB ((x : Int), (y : Int)))[8 * k + j]? = some (UInt8.ofNat (z / 256 ^ (7 - j) % 256))) := by
        rcases Nat.lt_or_ge k 1 with h1 | h1
        · obtain rfl : k = 0 := by omega
          refine ⟨x, by show _ < _; have := HX1.out; omega, J0.out.cell 0, fun j hj => ?_⟩
          unfold digB
          rw [List.getElem?_append_left (by rw [be_len]; omega), Int.toNat_natCast, show 8 * 0 + j = j by omega]
          exact be_get 8 x j hj
        · obtain rfl : k = 1 := by omega
          refine ⟨y, by show _ < _; have := HY1.out; omega, J0.out.cell 1, fun j hj => ?_⟩
          unfold digB
          rw [List.getElem?_append_right (by rw [be_len]; omega), Int.toNat_natCast, be_len, show 8 * 1 + j - 8 = j by omega]
          exact be_get 8 y j hj
      have HBY := Lib.hid hby; clear hby
      go_wp2
      obtain ⟨wo, rfl⟩ : ∃ wo : World, wo = wr := ⟨_, rfl⟩
      go_loopw [5, 6] (fun v i wr => ∃ (t p : Nat), t ≤ 8 ∧ i = .int .i64 (7 - (t : Int)) ∧ v = .int .u64 p ∧ Hid (p = z / 256 ^ t) ∧ Hid (Bk wr w.heap.size 30 #[.int .u64 x, .int .u64 y]) ∧ Hid (Bk wr (w.heap.size + 1) 5 (bc (Lf (digB ((x : Int), (y : Int))) (pw k t))).toArray) ∧ Hid (Below w.heap.size w wr)) (fun _ i _ => (intOf i + 1).toNat)
      case atStart => exact ⟨0, z, by omega, rfl, rfl, by show _ = _; simp, J0, J1, hB⟩
      case round =>
        obtain ⟨t, p, ht, rfl, rfl, hp, L0, L1, hB⟩ := hrel
        by_cases hlt : t < 8
        · have hji : (0 : Int) ≤ 7 - (t : Int) := by omega
          obtain ⟨b, hb⟩ : ∃ b, UInt8.ofNat (p % 256) = b := ⟨_, rfl⟩
          have hmod : ((p : Int) % 256) = (b.toNat : Int) := by rw [← hb, toNat_ofNat8 (by omega)]; omega
          obtain ⟨p2, hp2⟩ : ∃ p2, p / 256 = p2 := ⟨_, rfl⟩
          have hdiv : ((p : Int) / 256) = (p2 : Int) := by omega
          have HBJ : Hid ((digB ((x : Int), (y : Int)))[8 * k + (7 - t)]? = some b) := by
            show _ = _
            rw [HBY.out (7 - t) (by omega), show 7 - (7 - t) = t by omega, ← hp.out, hb]
          have HDV : Hid (p2 = z / 256 ^ (t + 1)) := by show _ = _; rw [← hp2, hp.out, Nat.pow_succ, Nat.div_div_eq_div_mul]
          have hbl : b.toNat < 256 := b.toNat_lt
          have HPB : Hid (p2 < 18446744073709551616) := by
            show _ < _
            rw [HDV.out]; exact Nat.lt_of_le_of_lt (Nat.div_le_self _ _) hz.out
          clear hb hp2
          generalize hq : 7 - (t : Int) = q at *
          have HQ := Lib.hid hq
          obtain ⟨r, hr⟩ : ∃ r : Nat, 8 * (k : Int) + q = (r : Int) := ⟨8 * k + (7 - t), by omega⟩
          have HR : Hid (r = 8 * k + (7 - t)) := by show _ = _; omega
          have hrl : r < 16 := by omega
          have f0 := L1.out.free r
          obtain ⟨v0, hv0⟩ : ∃ v0, wr.cell? ⟨w.heap.size + 1, r, none⟩ = some v0 := by
            rw [L1.out.cell]
            have hl : r < (bc (Lf (digB ((x : Int), (y : Int))) (pw k t))).toArray.size := by rw [List.size_toArray, bc_len, Lf_len]; exact hrl
            exact ⟨_, Array.getElem?_eq_getElem hl⟩
          have hq1 : -100 ≤ q := by omega
          have hq2 : q ≤ 100 := by omega
          clear hq
          go_wp2
          go_roundw
          case rel =>
            refine ⟨t + 1, p2, by omega, by rw [← HQ.out]; congr 1; omega, by rw [IntWalk.u64_in _ ⟨by omega, by have := HPB.out; omega⟩], HDV.out, L0.out.far (p := ⟨w.heap.size + 1, r, none⟩) (by simp) _, ?_, hB.out.setCell (p := ⟨w.heap.size + 1, r, none⟩) (by simp) _⟩
            have h1 := L1.out.set r (.int .u8 b.toNat)
            have hD := HBJ.out
            rw [← HR.out] at hD
            rw [← bc_set, Lf_set _ _ (pw k (t + 1)) r b hD (fun j => by rw [pw_step hlt, HR.out])] at h1
            exact h1
          case measure => have := HQ.out; simp [intOf]; omega
        · have hji : ¬ (0 : Int) ≤ 7 - (t : Int) := by omega
          have HT8 : Hid (t = 8) := by show _ = _; omega
          generalize hq : 7 - (t : Int) = q at *
          clear hq
          go_wp2
          go_roundw
          case rel =>
            refine ⟨k + 1, by omega, by go_num, L0.out, ?_, hB.out⟩
            have h1 := L1.out
            rw [HT8.out, ← show pw (k + 1) 0 = pw k 8 from funext (pw_next k)] at h1
            exact h1
          case measure => simp [intOf]; omega
    · have hlz : ¬ (k : Int) < 2 := by omega
      have HK2 : Hid (k = 2) := by show _ = _; omega
      have hconv := run_convert_bytes_back (P := Tryz.prog) wr 161 9 5 ⟨w.heap.size + 1, 0, none⟩ 16 (digB ((x : Int), (y : Int))) Tryz.underlying161 Tryz.underlying5 Tryz.underlying9 (by
        intro j hj
        have h1 := J1.out.cell j
        rw [Lf_all _ (digB_len _) (pw k 0) (fun i hi => by rw [HK2.out]; simp only [pw, decide_eq_true_eq]; omega)] at h1
        rw [Addr.add_lit, Nat.zero_add, h1]
        simp [bc, List.getElem?_eq_getElem hj])
      rw [digB_len] at hconv
      go_wp2
      go_ret
      exact ⟨rfl, hB.out⟩
end Go.Proofs.YtmdhlkkekidknaaGreatDoor

namespace Go.Proofs.YtmdhlkkekidknaaGreatDoor
open Go.RowKit

theorem ofL_app (a b : Bytes) : ofL a ++ ofL b = ofL (a ++ b) := by
  apply toL_inj
  show (ofL a ++ ofL b).data.toList = a ++ b
  rw [ByteArray.data_append, Array.toList_append]; rfl
def Str7E (s : ByteArray) (w : World) (e : Ending) (w' : World) : Prop := e = .returned (.string s) ∧ Below w.heap.size w w'
set_option maxHeartbeats 400000 in
theorem num7_any (n : Nat) (hn : n ≤ 1099511627776) (w : World) : Calls Tryz.prog 170 #[.int .i64 n] w (Str7E (ofL (encN n)) w) := by
  have HP := Lib.hid (refPutInt_any n hn w)
  generalize ofL (encN n) = s at *
  go_enter Tryz.func170, Tryz.ntmps170
  go_wp2_with (first | (go_at_call 202; refine HP.out.mono ?_; rintro e w1 ⟨rfl, hb⟩))
  go_ret
  exact ⟨rfl, hb⟩
set_option maxHeartbeats 400000 in
theorem txt7_any (t : ByteArray) (ht : t.size ≤ 65536) (w : World) : Calls Tryz.prog 171 #[.string t] w (Str7E (ofL (encT (toL t))) w) := by
  have HP := Lib.hid (refPutText_any t ht w)
  generalize ofL (encT (toL t)) = s at *
  go_enter Tryz.func171, Tryz.ntmps171
  go_wp2_with (first | (go_at_call 203; refine HP.out.mono ?_; rintro e w1 ⟨rfl, hb⟩))
  go_ret
  exact ⟨rfl, hb⟩
theorem encT_len {t : ByteArray} (h : t.size ≤ 65536) : (encT (toL t)).length ≤ 70000 := by
  have h1 := encN_len 5 t.size (by omega)
  have h2 := size_toL t
  unfold encT; rw [List.length_append, ← h2]; omega
set_option maxRecDepth 100000 in
set_option maxHeartbeats 8000000 in
theorem encode7_any (o : Ob) (s : Osl) (B : Nat) (w : World) (hm : ObM w B o s) (hB : B ≤ w.heap.size) (ho : OkF o) :
    Calls Tryz.prog 122 #[obV o s] w (Str7E (ofL (encO o)) w) := by
  have hel := hm.elen; have hpl := hm.plen
  have HE := Lib.hid hm.e; have HP := Lib.hid hm.p
  obtain ⟨W0, hW⟩ : ∃ W, w.alloc (.cells (obC o s) 82) = W := ⟨_, rfl⟩
  have HB0 : Hid (Below w.heap.size w W0) := by rw [← hW]; exact (Below.refl _ w).alloc (Nat.le_refl _) _
  have HK0 : Hid (Bk W0 w.heap.size 82 (obC o s)) := by rw [← hW]; exact Bk.new w _ _
  have zk : w.heap.size < W0.heap.size := HK0.out.lt
  cases ho with
  | blob k e c d =>
    have HENC : Hid (encO o = encN o.kind.toNat ++ encT (toL o.data)) := by show _ = _; unfold encO encB; rw [if_neg (by omega), if_neg (by omega)]
    obtain ⟨kind, data, ents, ⟨t1, t2⟩, pars, auth, time, msg⟩ := o
    obtain ⟨eA, en, ec, pA, pn, pc⟩ := s
    simp only at k d HENC
    simp only [obV, obC] at hW HK0 ⊢
    clear hm e c HE HP hel hpl
    rcases k with rfl | rfl
    · obtain ⟨c0, c1, c2, c3, c4, c5, c6, c7, c8⟩ := HK0.out.nine
      have HN1 := Lib.hid (num7_any 1 (by omega) W0)
      have hlk : (encN 1).length = 1 := by rw [encN_small (by omega)]; rfl
      go_enter Tryz.func122, Tryz.ntmps122
      go_wp2_with (first | (go_at_call 170; refine HN1.out.mono ?_; rintro e w1 ⟨rfl, hb⟩; refine halt_ ?_))
      refine unhalt ?_
      have HB1 : Hid (Below w.heap.size w w1) := HB0.out.trans (hb.mono HB0.out.size)
      have HK1 := Lib.hid (HK0.out.below hb zk)
      have z1 : w.heap.size < w1.heap.size := HK1.out.lt
      obtain ⟨s1, hs1⟩ : ∃ s1, ofL (encN 1) = s1 := ⟨_, rfl⟩
      rw [hs1]
      have HS1 : Hid (s1 = ofL (encN 1)) := hs1.symm
      have hz1 : s1.size ≤ 1 := by rw [← hs1, size_ofL]; omega
      clear hb hW c0 c1 c2 c3 c4 c5 c6 c7 c8 HN1 hs1
      obtain ⟨c0, c1, c2, c3, c4, c5, c6, c7, c8⟩ := HK1.out.nine
      have HT := Lib.hid (txt7_any data d w1)
      have hl2 := encT_len d
      obtain ⟨s2, hs2⟩ : ∃ s2, ofL (encT (toL data)) = s2 := ⟨_, rfl⟩
      rw [hs2] at HT
      have HS2 : Hid (s2 = ofL (encT (toL data))) := hs2.symm
      have hz2 : s2.size ≤ 70000 := by rw [← hs2, size_ofL]; exact hl2
      have hsz : ¬ (9223372036854775807 < s1.size + s2.size) := by omega
      clear hs2 d
      go_wp2_with (first | (go_at_call 171; refine HT.out.mono ?_; rintro e w2 ⟨rfl, hb⟩))
      go_ret
      exact ⟨by rw [HENC.out, HS1.out, HS2.out, ofL_app]; rfl, HB1.out.trans (hb.mono HB1.out.size)⟩
    · obtain ⟨c0, c1, c2, c3, c4, c5, c6, c7, c8⟩ := HK0.out.nine
      have HN1 := Lib.hid (num7_any 4 (by omega) W0)
      have hlk : (encN 4).length = 1 := by rw [encN_small (by omega)]; rfl
      go_enter Tryz.func122, Tryz.ntmps122
      go_wp2_with (first | (go_at_call 170; refine HN1.out.mono ?_; rintro e w1 ⟨rfl, hb⟩; refine halt_ ?_))
      refine unhalt ?_
      have HB1 : Hid (Below w.heap.size w w1) := HB0.out.trans (hb.mono HB0.out.size)
      have HK1 := Lib.hid (HK0.out.below hb zk)
      have z1 : w.heap.size < w1.heap.size := HK1.out.lt
      obtain ⟨s1, hs1⟩ : ∃ s1, ofL (encN 4) = s1 := ⟨_, rfl⟩
      rw [hs1]
      have HS1 : Hid (s1 = ofL (encN 4)) := hs1.symm
      have hz1 : s1.size ≤ 1 := by rw [← hs1, size_ofL]; omega
      clear hb hW c0 c1 c2 c3 c4 c5 c6 c7 c8 HN1 hs1
      obtain ⟨c0, c1, c2, c3, c4, c5, c6, c7, c8⟩ := HK1.out.nine
      have HT := Lib.hid (txt7_any data d w1)
      have hl2 := encT_len d
      obtain ⟨s2, hs2⟩ : ∃ s2, ofL (encT (toL data)) = s2 := ⟨_, rfl⟩
      rw [hs2] at HT
      have HS2 : Hid (s2 = ofL (encT (toL data))) := hs2.symm
      have hz2 : s2.size ≤ 70000 := by rw [← hs2, size_ofL]; exact hl2
      have hsz : ¬ (9223372036854775807 < s1.size + s2.size) := by omega
      clear hs2 d
      go_wp2_with (first | (go_at_call 171; refine HT.out.mono ?_; rintro e w2 ⟨rfl, hb⟩))
      go_ret
      exact ⟨by rw [HENC.out, HS1.out, HS2.out, ofL_app]; rfl, HB1.out.trans (hb.mono HB1.out.size)⟩
  | tree k d c e =>
    have HENC : Hid (encO o = encN 2 ++ (encN o.ents.length ++ o.ents.flatMap encE)) := by show _ = _; unfold encO encB; rw [if_pos k, k]; rfl
    obtain ⟨kind, data, ents, ⟨t1, t2⟩, pars, auth, time, msg⟩ := o
    obtain ⟨eA, n, ec, pA, pn, pc⟩ := s
    simp only at k d HENC hel HE
    subst k d
    simp only [obV, obC] at hW HK0 ⊢
    have hn : n ≤ 200 := by rw [← hel]; exact e.few
    have HOE := Lib.hid e.all
    have HEL := Lib.hid hel
    rw [hel] at HENC
    clear hm e c HP hpl hel
    obtain ⟨c0, c1, c2, c3, c4, c5, c6, c7, c8⟩ := HK0.out.nine
    have HN1 := Lib.hid (num7_any 2 (by omega) W0)
    have hlk : (encN 2).length = 1 := by rw [encN_small (by omega)]; rfl
    go_enter Tryz.func122, Tryz.ntmps122
    go_wp2_with (first | (go_at_call 170; refine HN1.out.mono ?_; rintro e w1 ⟨rfl, hb⟩; refine halt_ ?_))
    refine unhalt ?_
    have HB1 : Hid (Below w.heap.size w w1) := HB0.out.trans (hb.mono HB0.out.size)
    have HK1 := Lib.hid (HK0.out.below hb zk)
    have z1 : w.heap.size < w1.heap.size := HK1.out.lt
    obtain ⟨s1, hs1⟩ : ∃ s1, ofL (encN 2) = s1 := ⟨_, rfl⟩
    rw [hs1]
    have HS1 : Hid (s1 = ofL (encN 2)) := hs1.symm
    have hz1 : s1.size ≤ 1 := by rw [← hs1, size_ofL]; omega
    clear hb hW c0 c1 c2 c3 c4 c5 c6 c7 c8 HN1 hs1
    obtain ⟨c0, c1, c2, c3, c4, c5, c6, c7, c8⟩ := HK1.out.nine
    have HT := Lib.hid (num7_any n (by omega) w1)
    have hl2 := encN_len 5 n (by omega)
    obtain ⟨s2, hs2⟩ : ∃ s2, ofL (encN n) = s2 := ⟨_, rfl⟩
    rw [hs2] at HT
    have HS2 : Hid (s2 = ofL (encN n)) := hs2.symm
    have hz2 : s2.size ≤ 6 := by rw [← hs2, size_ofL]; exact hl2
    have hsz : ¬ (9223372036854775807 < s1.size + s2.size) := by omega
    clear hs2
    go_wp2_with (first | (go_at_call 170; refine HT.out.mono ?_; rintro e w2 ⟨rfl, hb⟩; refine halt_ ?_))
    refine unhalt ?_
    have HB2 : Hid (Below w.heap.size w w2) := HB1.out.trans (hb.mono HB1.out.size)
    have HK2 := Lib.hid (HK1.out.below hb z1)
    have z2 : w.heap.size < w2.heap.size := HK2.out.lt
    have HSS : Hid (s1 ++ s2 = ofL (encN 2 ++ encN n ++ (ents.take 0).flatMap encE)) := by show _ = _; rw [HS1.out, HS2.out, ofL_app]; simp
    clear hb c0 c1 c2 c3 c4 c5 c6 c7 c8 HT
    go_wp2_with fail
    go_loopw [3, 4] (fun a i wr => ∃ (k : Nat) (s0 : ByteArray), a = .string s0 ∧ i = .int .i64 (k : Int) ∧ k ≤ n ∧ Hid (s0 = ofL (encN 2 ++ encN n ++ (ents.take k).flatMap encE)) ∧ s0.size ≤ 10 + 100 * k ∧ Hid (Below w2.heap.size w2 wr)) (fun _ i _ => n - (intOf i).toNat)
    case atStart => exact ⟨0, s1 ++ s2, rfl, rfl, Nat.zero_le _, HSS.out, by rw [ByteArray.size_append]; omega, Below.refl _ _⟩
    case round =>
      obtain ⟨k, s0, rfl, rfl, hk, hS, hsz0, hbw⟩ := hrel
      have HBw : Hid (Below w.heap.size w wr) := HB2.out.trans (hbw.out.mono HB2.out.size)
      obtain ⟨c0, c1, c2, c3, c4, c5, c6, c7, c8⟩ := (HK2.out.below hbw.out z2).nine
      have zr := hbw.out.size
      by_cases hlt : k < n
      · have hlz : (k : Int) < (n : Int) := by omega
        have hk0 : ¬ (k : Int) < 0 := by omega
        obtain ⟨bb, off, en, rfl, hbB, hen, y0, y1, y2, y3⟩ := (HE.out.below HBw.out hB).en hlt
        have hoe := HOE.out en (List.mem_of_getElem? hen)
        have hns := nameB_size hoe.nm
        have hwd := hoe.dg
        have HEX : Hid ((ents.take (k + 1)).flatMap encE = (ents.take k).flatMap encE ++ encE en) := take_flat_snoc hen
        have hbw2 : bb < wr.heap.size := by have := HBw.out.size; omega
        obtain ⟨nm, dir, d1, d2⟩ := en
        simp only at y0 y1 y2 y3 hns HEX hwd
        obtain ⟨dn, hdn⟩ : ∃ dn : Nat, (if dir = true then 1 else 0 : Nat) = dn := ⟨_, rfl⟩
        have hdn1 : dn ≤ 1 := by rw [← hdn]; split <;> omega
        have HDN := Lib.hid hdn
        obtain ⟨x1, hx1⟩ : ∃ x, ofL (encT (toL nm)) = x := ⟨_, rfl⟩
        obtain ⟨x2, hx2⟩ : ∃ x, ofL (encN dn) = x := ⟨_, rfl⟩
        obtain ⟨x3, hx3⟩ : ∃ x, ofL (digB (d1, d2)) = x := ⟨_, rfl⟩
        have hz1 : x1.size ≤ 70 := by
          have h1 := encN_len 5 nm.size (by omega)
          have h2 := size_toL nm
          rw [← hx1, size_ofL]; unfold encT; rw [List.length_append, ← h2]; omega
        have hz2 : x2.size ≤ 6 := by rw [← hx2, size_ofL]; have := encN_len 5 dn (by omega); omega
        have hz3 : x3.size ≤ 16 := by rw [← hx3, size_ofL, digB_len]; omega
        have HX1 := Lib.hid (fun W => txt7_any nm (by omega) W)
        have HX2 := Lib.hid (fun W => num7_any dn (by omega) W)
        have HX3 := Lib.hid (fun W => refBytes_any (d1, d2) hwd W)
        unfold Str7E at HX1 HX2
        unfold digV at HX3
        rw [hx1] at HX1; rw [hx2] at HX2; rw [hx3] at HX3
        have HEE : Hid (s0 ++ x1 ++ x2 ++ x3 = ofL (encN 2 ++ encN n ++ (ents.take (k + 1)).flatMap encE)) := by
          show _ = _
          have he : encE ⟨nm, dir, (d1, d2)⟩ = encT (toL nm) ++ (encN dn ++ digB (d1, d2)) := by rw [← hdn]; rfl
          rw [HEX.out, he, hS.out, ← hx1, ← hx2, ← hx3, ofL_app, ofL_app, ofL_app]
          simp only [List.append_assoc]
        have hq1 : ¬ (9223372036854775807 < s0.size + x1.size) := by omega
        have hq2 : s0.size + x1.size + x2.size ≤ 9223372036854775807 := by omega
        have hq3 : s0.size + x1.size + x2.size + x3.size ≤ 9223372036854775807 := by omega
        have hq4 : (s0 ++ x1 ++ x2 ++ x3).size ≤ 10 + 100 * (k + 1) := by rw [ByteArray.size_append, ByteArray.size_append, ByteArray.size_append]; omega
        have HQ4 := Lib.hid hq4
        clear hx1 hx2 hx3 hen hoe hwd hq4
        go_upto_if 32 with fail
        go_cut [5] from 32 to 32 (fun q wx => q = .int .i64 (dn : Int) ∧ wx = wr)
        case first =>
          cases dir with
          | true =>
            obtain rfl : 1 = dn := by simpa using hdn
            go_wp2_with fail
            go_meet
            exact ⟨rfl, rfl⟩
          | false =>
            obtain rfl : 0 = dn := by simpa using hdn
            go_wp2_with fail
            go_meet
            exact ⟨rfl, rfl⟩
        case rest =>
          obtain ⟨rfl, rfl⟩ := hcut
          go_wp2_with fail
          refine wp_region_stableGD 20 (33 :: 34 :: 35 :: 36 :: 37 :: 38 :: 39 :: 40 :: 41 :: 42 :: 43 :: 44 :: 45 :: 46 :: 47 :: 48 :: 49 :: 50 :: 51 :: 52 :: []) (by kernel_rfl) (by kernel_rfl) (by kernel_rfl) (fun W => Below wc.heap.size wc W) (fun W W' => Below W.heap.size W W')
            (vPhi ((.string s0) :: (.pointer (some ⟨w.heap.size, 2, none⟩)) :: (.slice (some ⟨bb, off, none⟩) n ec) :: (.int .i64 (k : Int)) :: (.pointer (some ⟨bb, off + k * 4, none⟩)) :: (.pointer (some ⟨bb, off + k * 4, none⟩)) :: (.string nm) :: (.string x1) :: (.string (s0 ++ x1)) :: (.int .i64 (dn : Int)) :: (.string x2) :: (.string (s0 ++ x1 ++ x2)) :: (.pointer (some ⟨w.heap.size, 2, none⟩)) :: (.slice (some ⟨bb, off, none⟩) n ec) :: (.int .i64 (k : Int)) :: (.pointer (some ⟨bb, off + k * 4, none⟩)) :: (.pointer (some ⟨bb, off + k * 4 + 2, none⟩)) :: (.agg #[.int .u64 d1, .int .u64 d2]) :: (.string x3) :: (.string (s0 ++ x1 ++ x2 ++ x3)) :: [])) (fun W W' h1 h2 => h1.trans (h2.mono h1.size)) (fun i v W W' h _ => h) (Below.refl _ _).drew ?stepE ?tailE
          case stepE =>
            intro i o vs W hi ho hv hR hphi
            obtain ⟨v0, v1, v2, v3, v4, v5, v6, v7, v8, v9, v10, v11, v12, v13, v14, v15, v16, v17, v18, v19, rfl⟩ := ls20 hv
            simp only [List.zip, List.zipWith, putAll, Act.put, List.setIfInBounds_toArray, List.set]
            have hWz := hR.size
            have g2 := (hR.cell (p := ⟨w.heap.size, 2, none⟩) (by show w.heap.size < _; omega)).trans c2
            have q0 := (hR.cell (p := ⟨bb, off + k * 4, none⟩) (by show bb < _; omega)).trans y0
            have q1 := (hR.cell (p := ⟨bb, off + k * 4 + 1, none⟩) (by show bb < _; omega)).trans y1
            have q2 := (hR.cell (p := ⟨bb, off + k * 4 + 2, none⟩) (by show bb < _; omega)).trans y2
            have q3 := (hR.cell (p := ⟨bb, off + k * 4 + 3, none⟩) (by show bb < _; omega)).trans y3
            match i, hi, ho with
            | 0, _, rfl =>
              exact .inl ⟨rfl, gives_value (v := .string s0) (w' := W) (by go_simp) ⟨Below.refl _ _, fun u hu => by cases hu; rfl⟩⟩
            | 1, _, rfl =>
              exact .inl ⟨rfl, gives_value (v := .pointer (some ⟨w.heap.size, 2, none⟩)) (w' := W) (by go_simp) ⟨Below.refl _ _, fun u hu => by cases hu; rfl⟩⟩
            | 2, _, rfl =>
              have e1 : v1 = _ := hphi ⟨1, .data⟩ (by simp) rfl v1 rfl _ rfl
              subst e1
              exact .inl ⟨rfl, gives_value (v := .slice (some ⟨bb, off, none⟩) n ec) (w' := W) (by go_simp) ⟨Below.refl _ _, fun u hu => by cases hu; rfl⟩⟩
            | 3, _, rfl =>
              exact .inl ⟨rfl, gives_value (v := .int .i64 (k : Int)) (w' := W) (by go_simp) ⟨Below.refl _ _, fun u hu => by cases hu; rfl⟩⟩
            | 4, _, rfl =>
              have e2 : v2 = _ := hphi ⟨2, .data⟩ (by simp) rfl v2 rfl _ rfl
              have e3 : v3 = _ := hphi ⟨3, .data⟩ (by simp) rfl v3 rfl _ rfl
              subst e2 e3
              exact .inl ⟨rfl, gives_value (v := .pointer (some ⟨bb, off + k * 4, none⟩)) (w' := W) (by go_simp) ⟨Below.refl _ _, fun u hu => by cases hu; rfl⟩⟩
            | 5, _, rfl =>
              have e4 : v4 = _ := hphi ⟨4, .data⟩ (by simp) rfl v4 rfl _ rfl
              subst e4
              exact .inl ⟨rfl, gives_value (v := .pointer (some ⟨bb, off + k * 4, none⟩)) (w' := W) (by go_simp) ⟨Below.refl _ _, fun u hu => by cases hu; rfl⟩⟩
            | 6, _, rfl =>
              have e5 : v5 = _ := hphi ⟨5, .data⟩ (by simp) rfl v5 rfl _ rfl
              subst e5
              exact .inl ⟨rfl, gives_value (v := .string nm) (w' := W) (by go_simp) ⟨Below.refl _ _, fun u hu => by cases hu; rfl⟩⟩
            | 7, _, rfl =>
              have e6 : v6 = _ := hphi ⟨6, .data⟩ (by simp) rfl v6 rfl _ rfl
              subst e6
              refine .inl ⟨rfl, gives_call (f := 171) (args := #[.string nm]) (by go_simp) ((HX1.out W).mono ?_)⟩
              rintro e W' ⟨rfl, hb2⟩
              exact ⟨_, rfl, hb2, fun u hu => by cases hu; rfl⟩
            | 8, _, rfl =>
              have e0 : v0 = _ := hphi ⟨0, .data⟩ (by simp) rfl v0 rfl _ rfl
              have e7 : v7 = _ := hphi ⟨7, .data⟩ (by simp) rfl v7 rfl _ rfl
              subst e0 e7
              exact .inl ⟨rfl, gives_value (v := .string (s0 ++ x1)) (w' := W) (by go_simp) ⟨Below.refl _ _, fun u hu => by cases hu; rfl⟩⟩
            | 9, _, rfl =>
              exact .inl ⟨rfl, gives_value (v := .int .i64 (dn : Int)) (w' := W) (by go_simp) ⟨Below.refl _ _, fun u hu => by cases hu; rfl⟩⟩
            | 10, _, rfl =>
              have e9 : v9 = _ := hphi ⟨9, .data⟩ (by simp) rfl v9 rfl _ rfl
              subst e9
              refine .inl ⟨rfl, gives_call (f := 170) (args := #[.int .i64 (dn : Int)]) (by go_simp) ((HX2.out W).mono ?_)⟩
              rintro e W' ⟨rfl, hb2⟩
              exact ⟨_, rfl, hb2, fun u hu => by cases hu; rfl⟩
            | 11, _, rfl =>
              have e8 : v8 = _ := hphi ⟨8, .data⟩ (by simp) rfl v8 rfl _ rfl
              have e10 : v10 = _ := hphi ⟨10, .data⟩ (by simp) rfl v10 rfl _ rfl
              subst e8 e10
              exact .inl ⟨rfl, gives_value (v := .string (s0 ++ x1 ++ x2)) (w' := W) (by go_simp) ⟨Below.refl _ _, fun u hu => by cases hu; rfl⟩⟩
            | 12, _, rfl =>
              exact .inl ⟨rfl, gives_value (v := .pointer (some ⟨w.heap.size, 2, none⟩)) (w' := W) (by go_simp) ⟨Below.refl _ _, fun u hu => by cases hu; rfl⟩⟩
            | 13, _, rfl =>
              have e12 : v12 = _ := hphi ⟨12, .data⟩ (by simp) rfl v12 rfl _ rfl
              subst e12
              exact .inl ⟨rfl, gives_value (v := .slice (some ⟨bb, off, none⟩) n ec) (w' := W) (by go_simp) ⟨Below.refl _ _, fun u hu => by cases hu; rfl⟩⟩
            | 14, _, rfl =>
              exact .inl ⟨rfl, gives_value (v := .int .i64 (k : Int)) (w' := W) (by go_simp) ⟨Below.refl _ _, fun u hu => by cases hu; rfl⟩⟩
            | 15, _, rfl =>
              have e13 : v13 = _ := hphi ⟨13, .data⟩ (by simp) rfl v13 rfl _ rfl
              have e14 : v14 = _ := hphi ⟨14, .data⟩ (by simp) rfl v14 rfl _ rfl
              subst e13 e14
              exact .inl ⟨rfl, gives_value (v := .pointer (some ⟨bb, off + k * 4, none⟩)) (w' := W) (by go_simp) ⟨Below.refl _ _, fun u hu => by cases hu; rfl⟩⟩
            | 16, _, rfl =>
              have e15 : v15 = _ := hphi ⟨15, .data⟩ (by simp) rfl v15 rfl _ rfl
              subst e15
              exact .inl ⟨rfl, gives_value (v := .pointer (some ⟨bb, off + k * 4 + 2, none⟩)) (w' := W) (by go_simp) ⟨Below.refl _ _, fun u hu => by cases hu; rfl⟩⟩
            | 17, _, rfl =>
              have e16 : v16 = _ := hphi ⟨16, .data⟩ (by simp) rfl v16 rfl _ rfl
              subst e16
              exact .inl ⟨rfl, gives_value (v := .agg #[.int .u64 d1, .int .u64 d2]) (w' := W) (by go_simp) ⟨Below.refl _ _, fun u hu => by cases hu; rfl⟩⟩
            | 18, _, rfl =>
              have e17 : v17 = _ := hphi ⟨17, .data⟩ (by simp) rfl v17 rfl _ rfl
              subst e17
              refine .inl ⟨rfl, gives_call (f := 172) (args := #[.agg #[.int .u64 d1, .int .u64 d2]]) (by go_simp) ((HX3.out W).mono ?_)⟩
              rintro e W' ⟨rfl, hb2⟩
              exact ⟨_, rfl, hb2, fun u hu => by cases hu; rfl⟩
            | 19, _, rfl =>
              have e11 : v11 = _ := hphi ⟨11, .data⟩ (by simp) rfl v11 rfl _ rfl
              have e18 : v18 = _ := hphi ⟨18, .data⟩ (by simp) rfl v18 rfl _ rfl
              subst e11 e18
              exact .inl ⟨rfl, gives_value (v := .string (s0 ++ x1 ++ x2 ++ x3)) (w' := W) (by go_simp) ⟨Below.refl _ _, fun u hu => by cases hu; rfl⟩⟩
            | i + 20, hi, _ => exact absurd hi (by omega)
          case tailE =>
            intro vs W hv hR hphi
            obtain ⟨v0, v1, v2, v3, v4, v5, v6, v7, v8, v9, v10, v11, v12, v13, v14, v15, v16, v17, v18, v19, rfl⟩ := ls20 hv
            simp only [List.zip, List.zipWith, putAll, Act.put, List.setIfInBounds_toArray, List.set, List.drop]
            have e0 : v0 = _ := hphi 0 v0 rfl _ rfl
            have e1 : v1 = _ := hphi 1 v1 rfl _ rfl
            have e2 : v2 = _ := hphi 2 v2 rfl _ rfl
            have e3 : v3 = _ := hphi 3 v3 rfl _ rfl
            have e4 : v4 = _ := hphi 4 v4 rfl _ rfl
            have e5 : v5 = _ := hphi 5 v5 rfl _ rfl
            have e6 : v6 = _ := hphi 6 v6 rfl _ rfl
            have e7 : v7 = _ := hphi 7 v7 rfl _ rfl
            have e8 : v8 = _ := hphi 8 v8 rfl _ rfl
            have e9 : v9 = _ := hphi 9 v9 rfl _ rfl
            have e10 : v10 = _ := hphi 10 v10 rfl _ rfl
            have e11 : v11 = _ := hphi 11 v11 rfl _ rfl
            have e12 : v12 = _ := hphi 12 v12 rfl _ rfl
            have e13 : v13 = _ := hphi 13 v13 rfl _ rfl
            have e14 : v14 = _ := hphi 14 v14 rfl _ rfl
            have e15 : v15 = _ := hphi 15 v15 rfl _ rfl
            have e16 : v16 = _ := hphi 16 v16 rfl _ rfl
            have e17 : v17 = _ := hphi 17 v17 rfl _ rfl
            have e18 : v18 = _ := hphi 18 v18 rfl _ rfl
            have e19 : v19 = _ := hphi 19 v19 rfl _ rfl
            subst e0 e1 e2 e3 e4 e5 e6 e7 e8 e9 e10 e11 e12 e13 e14 e15 e16 e17 e18 e19
            clear hphi hv
            have HBz : Hid (Below w2.heap.size w2 W) := hbw.out.trans (hR.mono zr)
            clear hR
            go_wp2_with fail
            go_roundw
            case rel => exact ⟨k + 1, _, rfl, by go_num, hlt, HEE.out, HQ4.out, HBz.out⟩
            case measure => simp [intOf]; omega
      · have hlz : ¬ (k : Int) < (n : Int) := by omega
        have HSE : Hid (s0 = ofL (encN 2 ++ encN n ++ ents.flatMap encE)) := by
          have := hS.out; rw [List.take_of_length_le (by rw [HEL.out]; omega)] at this; exact this
        go_wp2_with fail
        go_ret
        exact ⟨by rw [HENC.out, ← List.append_assoc, ← HSE.out]; rfl, HBw.out⟩
  | commit k d e c =>
    have HENC : Hid (encO o = encN 3 ++ (digB o.tree ++ (encN o.pars.length ++ (o.pars.flatMap digB ++ (encT (toL o.auth) ++ (encN o.time.toNat ++ encT (toL o.msg))))))) := by show _ = _; unfold encO encB; rw [if_neg (by omega), if_pos k, k]; rfl
    obtain ⟨kind, data, ents, ⟨t1, t2⟩, pars, auth, time, msg⟩ := o
    obtain ⟨eA, en, ec, pA, n, pc⟩ := s
    simp only at k d e HENC hpl HP
    subst k d e
    simp only [obV, obC] at hW HK0 ⊢
    have hn : n ≤ 8 := by rw [← hpl]; exact c.pars.few
    have hwt : WfD (t1, t2) := c.wf
    have HOP := Lib.hid c.pars.wf
    have HPL := Lib.hid hpl
    have hau : auth.size ≤ 24 := nameB_size c.auth
    have hmg : msg.size ≤ 200 := c.msg
    have ht0 : 0 ≤ time := c.t0
    have ht1 : time ≤ 1099511627776 := c.t1
    obtain ⟨tn, rfl⟩ := Int.eq_ofNat_of_zero_le ht0
    have htn : tn ≤ 1099511627776 := by omega
    simp only [Int.toNat_natCast] at HENC
    rw [hpl] at HENC
    clear hm c HE hel hpl ht0 ht1
    obtain ⟨c0, c1, c2, c3, c4, c5, c6, c7, c8⟩ := HK0.out.nine
    have HN1 := Lib.hid (num7_any 3 (by omega) W0)
    have hlk : (encN 3).length = 1 := by rw [encN_small (by omega)]; rfl
    go_enter Tryz.func122, Tryz.ntmps122
    go_wp2_with (first | (go_at_call 170; refine HN1.out.mono ?_; rintro e w1 ⟨rfl, hb⟩; refine halt_ ?_))
    refine unhalt ?_
    have HB1 : Hid (Below w.heap.size w w1) := HB0.out.trans (hb.mono HB0.out.size)
    have HK1 := Lib.hid (HK0.out.below hb zk)
    have z1 : w.heap.size < w1.heap.size := HK1.out.lt
    obtain ⟨s1, hs1⟩ : ∃ s1, ofL (encN 3) = s1 := ⟨_, rfl⟩
    rw [hs1]
    have HS1 : Hid (s1 = ofL (encN 3)) := hs1.symm
    have hz1 : s1.size ≤ 1 := by rw [← hs1, size_ofL]; omega
    clear hb hW c0 c1 c2 c3 c4 c5 c6 c7 c8 HN1 hs1
    obtain ⟨c0, c1, c2, c3, c4, c5, c6, c7, c8⟩ := HK1.out.nine
    obtain ⟨x1, hx1⟩ : ∃ x, ofL (digB (t1, t2)) = x := ⟨_, rfl⟩
    obtain ⟨x2, hx2⟩ : ∃ x, ofL (encN n) = x := ⟨_, rfl⟩
    have hy1 : x1.size ≤ 16 := by rw [← hx1, size_ofL, digB_len]; omega
    have hy2 : x2.size ≤ 6 := by rw [← hx2, size_ofL]; exact encN_len 5 n (by omega)
    have HX1 := Lib.hid (fun W => refBytes_any (t1, t2) hwt W)
    have HX2 := Lib.hid (fun W => num7_any n (by omega) W)
    unfold Str7E at HX2
    unfold digV at HX1
    rw [hx1] at HX1; rw [hx2] at HX2
    have HSS : Hid (s1 ++ x1 ++ x2 = ofL (encN 3 ++ digB (t1, t2) ++ encN n ++ (pars.take 0).flatMap digB)) := by show _ = _; rw [HS1.out, ← hx1, ← hx2, ofL_app, ofL_app]; simp
    have hq1 : ¬ (9223372036854775807 < s1.size + x1.size) := by omega
    have hq2 : s1.size + x1.size + x2.size ≤ 9223372036854775807 := by omega
    have hq4 : (s1 ++ x1 ++ x2).size ≤ 30 := by rw [ByteArray.size_append, ByteArray.size_append]; omega
    have HQ4 := Lib.hid hq4
    clear hx1 hx2 hq4
    go_wp2_with fail
    refine wp_region_stableGD 10 (56 :: 57 :: 58 :: 59 :: 60 :: 61 :: 62 :: 63 :: 64 :: 65 :: []) (by kernel_rfl) (by kernel_rfl) (by kernel_rfl) (fun W => Below w1.heap.size w1 W) (fun W W' => Below W.heap.size W W')
      (vPhi ((.string s1) :: (.pointer (some ⟨w.heap.size, 3, none⟩)) :: (.agg #[.int .u64 t1, .int .u64 t2]) :: (.string x1) :: (.string (s1 ++ x1)) :: (.pointer (some ⟨w.heap.size, 5, none⟩)) :: (.slice pA n pc) :: (.int .i64 (n : Int)) :: (.string x2) :: (.string (s1 ++ x1 ++ x2)) :: [])) (fun W W' h1 h2 => h1.trans (h2.mono h1.size)) (fun i v W W' h _ => h) (Below.refl _ _).drew ?stepA ?tailA
    case stepA =>
      intro i o vs W hi ho hv hR hphi
      obtain ⟨v0, v1, v2, v3, v4, v5, v6, v7, v8, v9, rfl⟩ := ls10 hv
      simp only [List.zip, List.zipWith, putAll, Act.put, List.setIfInBounds_toArray, List.set]
      have hWz := hR.size
      have g0 := (hR.cell (p := ⟨w.heap.size, 0, none⟩) (by show w.heap.size < _; omega)).trans c0
      have g1 := (hR.cell (p := ⟨w.heap.size, 1, none⟩) (by show w.heap.size < _; omega)).trans c1
      have g2 := (hR.cell (p := ⟨w.heap.size, 2, none⟩) (by show w.heap.size < _; omega)).trans c2
      have g3 := (hR.cell (p := ⟨w.heap.size, 3, none⟩) (by show w.heap.size < _; omega)).trans c3
      have g4 := (hR.cell (p := ⟨w.heap.size, 4, none⟩) (by show w.heap.size < _; omega)).trans c4
      have g5 := (hR.cell (p := ⟨w.heap.size, 5, none⟩) (by show w.heap.size < _; omega)).trans c5
      have g6 := (hR.cell (p := ⟨w.heap.size, 6, none⟩) (by show w.heap.size < _; omega)).trans c6
      have g7 := (hR.cell (p := ⟨w.heap.size, 7, none⟩) (by show w.heap.size < _; omega)).trans c7
      have g8 := (hR.cell (p := ⟨w.heap.size, 8, none⟩) (by show w.heap.size < _; omega)).trans c8
      match i, hi, ho with
      | 0, _, rfl =>
        exact .inl ⟨rfl, gives_value (v := .string s1) (w' := W) (by go_simp) ⟨Below.refl _ _, fun u hu => by cases hu; rfl⟩⟩
      | 1, _, rfl =>
        exact .inl ⟨rfl, gives_value (v := .pointer (some ⟨w.heap.size, 3, none⟩)) (w' := W) (by go_simp) ⟨Below.refl _ _, fun u hu => by cases hu; rfl⟩⟩
      | 2, _, rfl =>
        have e1 : v1 = _ := hphi ⟨1, .data⟩ (by simp) rfl v1 rfl _ rfl
        subst e1
        exact .inl ⟨rfl, gives_value (v := .agg #[.int .u64 t1, .int .u64 t2]) (w' := W) (by go_simp) ⟨Below.refl _ _, fun u hu => by cases hu; rfl⟩⟩
      | 3, _, rfl =>
        have e2 : v2 = _ := hphi ⟨2, .data⟩ (by simp) rfl v2 rfl _ rfl
        subst e2
        refine .inl ⟨rfl, gives_call (f := 172) (args := #[.agg #[.int .u64 t1, .int .u64 t2]]) (by go_simp) ((HX1.out W).mono ?_)⟩
        rintro e W' ⟨rfl, hb2⟩
        exact ⟨_, rfl, hb2, fun u hu => by cases hu; rfl⟩
      | 4, _, rfl =>
        have e0 : v0 = _ := hphi ⟨0, .data⟩ (by simp) rfl v0 rfl _ rfl
        have e3 : v3 = _ := hphi ⟨3, .data⟩ (by simp) rfl v3 rfl _ rfl
        subst e0 e3
        exact .inl ⟨rfl, gives_value (v := .string (s1 ++ x1)) (w' := W) (by go_simp) ⟨Below.refl _ _, fun u hu => by cases hu; rfl⟩⟩
      | 5, _, rfl =>
        exact .inl ⟨rfl, gives_value (v := .pointer (some ⟨w.heap.size, 5, none⟩)) (w' := W) (by go_simp) ⟨Below.refl _ _, fun u hu => by cases hu; rfl⟩⟩
      | 6, _, rfl =>
        have e5 : v5 = _ := hphi ⟨5, .data⟩ (by simp) rfl v5 rfl _ rfl
        subst e5
        exact .inl ⟨rfl, gives_value (v := .slice pA n pc) (w' := W) (by go_simp) ⟨Below.refl _ _, fun u hu => by cases hu; rfl⟩⟩
      | 7, _, rfl =>
        have e6 : v6 = _ := hphi ⟨6, .data⟩ (by simp) rfl v6 rfl _ rfl
        subst e6
        exact .inl ⟨rfl, gives_value (v := .int .i64 (n : Int)) (w' := W) (by go_simp) ⟨Below.refl _ _, fun u hu => by cases hu; rfl⟩⟩
      | 8, _, rfl =>
        have e7 : v7 = _ := hphi ⟨7, .data⟩ (by simp) rfl v7 rfl _ rfl
        subst e7
        refine .inl ⟨rfl, gives_call (f := 170) (args := #[.int .i64 (n : Int)]) (by go_simp) ((HX2.out W).mono ?_)⟩
        rintro e W' ⟨rfl, hb2⟩
        exact ⟨_, rfl, hb2, fun u hu => by cases hu; rfl⟩
      | 9, _, rfl =>
        have e4 : v4 = _ := hphi ⟨4, .data⟩ (by simp) rfl v4 rfl _ rfl
        have e8 : v8 = _ := hphi ⟨8, .data⟩ (by simp) rfl v8 rfl _ rfl
        subst e4 e8
        exact .inl ⟨rfl, gives_value (v := .string (s1 ++ x1 ++ x2)) (w' := W) (by go_simp) ⟨Below.refl _ _, fun u hu => by cases hu; rfl⟩⟩
      | i + 10, hi, _ => exact absurd hi (by omega)
    case tailA =>
      intro vs W hv hR hphi
      obtain ⟨v0, v1, v2, v3, v4, v5, v6, v7, v8, v9, rfl⟩ := ls10 hv
      simp only [List.zip, List.zipWith, putAll, Act.put, List.setIfInBounds_toArray, List.set, List.drop]
      have e0 : v0 = _ := hphi 0 v0 rfl _ rfl
      have e1 : v1 = _ := hphi 1 v1 rfl _ rfl
      have e2 : v2 = _ := hphi 2 v2 rfl _ rfl
      have e3 : v3 = _ := hphi 3 v3 rfl _ rfl
      have e4 : v4 = _ := hphi 4 v4 rfl _ rfl
      have e5 : v5 = _ := hphi 5 v5 rfl _ rfl
      have e6 : v6 = _ := hphi 6 v6 rfl _ rfl
      have e7 : v7 = _ := hphi 7 v7 rfl _ rfl
      have e8 : v8 = _ := hphi 8 v8 rfl _ rfl
      have e9 : v9 = _ := hphi 9 v9 rfl _ rfl
      subst e0 e1 e2 e3 e4 e5 e6 e7 e8 e9
      clear hphi hv
      have HB2 : Hid (Below w.heap.size w W) := HB1.out.trans (hR.mono HB1.out.size)
      have HK2 := Lib.hid (HK1.out.below hR z1)
      have z2 : w.heap.size < W.heap.size := HK2.out.lt
      obtain ⟨w2, hw2⟩ : ∃ w2, w2 = W := ⟨_, rfl⟩
      subst hw2
      clear hR c0 c1 c2 c3 c4 c5 c6 c7 c8
      obtain ⟨c0, c1, c2, c3, c4, c5, c6, c7, c8⟩ := HK2.out.nine
      go_wp2_with fail
      go_loopw [3, 6] (fun a i wr => ∃ (k : Nat) (s0 : ByteArray), a = .string s0 ∧ i = .int .i64 (k : Int) ∧ k ≤ n ∧ Hid (s0 = ofL (encN 3 ++ digB (t1, t2) ++ encN n ++ (pars.take k).flatMap digB)) ∧ s0.size ≤ 30 + 16 * k ∧ Hid (Below w2.heap.size w2 wr)) (fun _ i _ => n - (intOf i).toNat)
      case atStart => exact ⟨0, s1 ++ x1 ++ x2, rfl, rfl, Nat.zero_le _, HSS.out, by have := HQ4.out; omega, Below.refl _ _⟩
      case round =>
        obtain ⟨k, s0, rfl, rfl, hk, hS, hsz0, hbw⟩ := hrel
        have HBw : Hid (Below w.heap.size w wr) := HB2.out.trans (hbw.out.mono HB2.out.size)
        clear c0 c1 c2 c3 c4 c5 c6 c7 c8
        obtain ⟨c0, c1, c2, c3, c4, c5, c6, c7, c8⟩ := (HK2.out.below hbw.out z2).nine
        have zr := hbw.out.size
        clear hq1 hq2
        by_cases hlt : k < n
        · have hlz : (k : Int) < (n : Int) := by omega
          have hk0 : ¬ (k : Int) < 0 := by omega
          obtain ⟨bb, off, d, rfl, hbB, hd, y0, y1⟩ := (HP.out.below HBw.out hB).dg hlt
          have hwd := HOP.out d (List.mem_of_getElem? hd)
          have HEX : Hid ((pars.take (k + 1)).flatMap digB = (pars.take k).flatMap digB ++ digB d) := take_flat_snoc hd
          obtain ⟨d1, d2⟩ := d
          simp only at y0 y1
          obtain ⟨x3, hx3⟩ : ∃ x, ofL (digB (d1, d2)) = x := ⟨_, rfl⟩
          have hy3 : x3.size ≤ 16 := by rw [← hx3, size_ofL, digB_len]; omega
          have HX3 := Lib.hid (refBytes_any (d1, d2) hwd wr)
          unfold digV at HX3
          rw [hx3] at HX3
          have HEE : Hid (s0 ++ x3 = ofL (encN 3 ++ digB (t1, t2) ++ encN n ++ (pars.take (k + 1)).flatMap digB)) := by
            show _ = _
            rw [HEX.out, hS.out, ← hx3, ofL_app]
            simp only [List.append_assoc]
          have hq1 : ¬ (9223372036854775807 < s0.size + x3.size) := by omega
          have HQ5 : Hid ((s0 ++ x3).size ≤ 30 + 16 * (k + 1)) := by show _ ≤ _; rw [ByteArray.size_append]; omega
          clear hx3 hd hwd
          go_wp2_with (first | (go_at_call 172; refine HX3.out.mono ?_; rintro e w5 ⟨rfl, hb5⟩; refine halt_ ?_))
          refine unhalt ?_
          have HB5 : Hid (Below w2.heap.size w2 w5) := hbw.out.trans (hb5.mono zr)
          clear hb5
          go_wp2_with fail
          go_roundw
          case rel => exact ⟨k + 1, _, rfl, by go_num, hlt, HEE.out, HQ5.out, HB5.out⟩
          case measure => simp [intOf]; omega
        · have hlz : ¬ (k : Int) < (n : Int) := by omega
          have HSE : Hid (s0 = ofL (encN 3 ++ digB (t1, t2) ++ encN n ++ pars.flatMap digB)) := by
            have := hS.out; rw [List.take_of_length_le (by rw [HPL.out]; omega)] at this; exact this
          clear HX1 HX2 HSS
          obtain ⟨x1, hx1⟩ : ∃ x, ofL (encT (toL auth)) = x := ⟨_, rfl⟩
          obtain ⟨x2, hx2⟩ : ∃ x, ofL (encN tn) = x := ⟨_, rfl⟩
          obtain ⟨x3, hx3⟩ : ∃ x, ofL (encT (toL msg)) = x := ⟨_, rfl⟩
          have hz1 : x1.size ≤ 70000 := by rw [← hx1, size_ofL]; exact encT_len (by omega)
          have hz2 : x2.size ≤ 6 := by rw [← hx2, size_ofL]; exact encN_len 5 tn (by omega)
          have hz3 : x3.size ≤ 70000 := by rw [← hx3, size_ofL]; exact encT_len (by omega)
          have HX1 := Lib.hid (fun W => txt7_any auth (by omega) W)
          have HX2 := Lib.hid (fun W => num7_any tn htn W)
          have HX3 := Lib.hid (fun W => txt7_any msg (by omega) W)
          unfold Str7E at HX1 HX2 HX3
          rw [hx1] at HX1; rw [hx2] at HX2; rw [hx3] at HX3
          have HEE : Hid (s0 ++ x1 ++ x2 ++ x3 = ofL (encO ⟨3, ⟨#[]⟩, [], (t1, t2), pars, auth, (tn : Int), msg⟩)) := by
            show _ = _
            rw [HENC.out, HSE.out, ← hx1, ← hx2, ← hx3, ofL_app, ofL_app, ofL_app]
            simp only [List.append_assoc]
          have hq1 : ¬ (9223372036854775807 < s0.size + x1.size) := by omega
          have hq2 : s0.size + x1.size + x2.size ≤ 9223372036854775807 := by omega
          have hq3 : s0.size + x1.size + x2.size + x3.size ≤ 9223372036854775807 := by omega
          clear hx1 hx2 hx3
          go_wp2_with fail
          refine wp_region_stableGD 13 (81 :: 82 :: 83 :: 84 :: 85 :: 86 :: 87 :: 88 :: 89 :: 90 :: 91 :: 92 :: 93 :: []) (by kernel_rfl) (by kernel_rfl) (by kernel_rfl) (fun W => Below wr.heap.size wr W) (fun W W' => Below W.heap.size W W')
            (vPhi ((.string s0) :: (.pointer (some ⟨w.heap.size, 6, none⟩)) :: (.string auth) :: (.string x1) :: (.string (s0 ++ x1)) :: (.pointer (some ⟨w.heap.size, 7, none⟩)) :: (.int .i64 (tn : Int)) :: (.string x2) :: (.string (s0 ++ x1 ++ x2)) :: (.pointer (some ⟨w.heap.size, 8, none⟩)) :: (.string msg) :: (.string x3) :: (.string (s0 ++ x1 ++ x2 ++ x3)) :: [])) (fun W W' h1 h2 => h1.trans (h2.mono h1.size)) (fun i v W W' h _ => h) (Below.refl _ _).drew ?stepC ?tailC
          case stepC =>
            intro i o vs W hi ho hv hR hphi
            obtain ⟨v0, v1, v2, v3, v4, v5, v6, v7, v8, v9, v10, v11, v12, rfl⟩ := ls13 hv
            simp only [List.zip, List.zipWith, putAll, Act.put, List.setIfInBounds_toArray, List.set]
            have hWz := hR.size
            have g0 := (hR.cell (p := ⟨w.heap.size, 0, none⟩) (by show w.heap.size < _; omega)).trans c0
            have g1 := (hR.cell (p := ⟨w.heap.size, 1, none⟩) (by show w.heap.size < _; omega)).trans c1
            have g2 := (hR.cell (p := ⟨w.heap.size, 2, none⟩) (by show w.heap.size < _; omega)).trans c2
            have g3 := (hR.cell (p := ⟨w.heap.size, 3, none⟩) (by show w.heap.size < _; omega)).trans c3
            have g4 := (hR.cell (p := ⟨w.heap.size, 4, none⟩) (by show w.heap.size < _; omega)).trans c4
            have g5 := (hR.cell (p := ⟨w.heap.size, 5, none⟩) (by show w.heap.size < _; omega)).trans c5
            have g6 := (hR.cell (p := ⟨w.heap.size, 6, none⟩) (by show w.heap.size < _; omega)).trans c6
            have g7 := (hR.cell (p := ⟨w.heap.size, 7, none⟩) (by show w.heap.size < _; omega)).trans c7
            have g8 := (hR.cell (p := ⟨w.heap.size, 8, none⟩) (by show w.heap.size < _; omega)).trans c8
            match i, hi, ho with
            | 0, _, rfl =>
              exact .inl ⟨rfl, gives_value (v := .string s0) (w' := W) (by go_simp) ⟨Below.refl _ _, fun u hu => by cases hu; rfl⟩⟩
            | 1, _, rfl =>
              exact .inl ⟨rfl, gives_value (v := .pointer (some ⟨w.heap.size, 6, none⟩)) (w' := W) (by go_simp) ⟨Below.refl _ _, fun u hu => by cases hu; rfl⟩⟩
            | 2, _, rfl =>
              have e1 : v1 = _ := hphi ⟨1, .data⟩ (by simp) rfl v1 rfl _ rfl
              subst e1
              exact .inl ⟨rfl, gives_value (v := .string auth) (w' := W) (by go_simp) ⟨Below.refl _ _, fun u hu => by cases hu; rfl⟩⟩
            | 3, _, rfl =>
              have e2 : v2 = _ := hphi ⟨2, .data⟩ (by simp) rfl v2 rfl _ rfl
              subst e2
              refine .inl ⟨rfl, gives_call (f := 171) (args := #[.string auth]) (by go_simp) ((HX1.out W).mono ?_)⟩
              rintro e W' ⟨rfl, hb2⟩
              exact ⟨_, rfl, hb2, fun u hu => by cases hu; rfl⟩
            | 4, _, rfl =>
              have e0 : v0 = _ := hphi ⟨0, .data⟩ (by simp) rfl v0 rfl _ rfl
              have e3 : v3 = _ := hphi ⟨3, .data⟩ (by simp) rfl v3 rfl _ rfl
              subst e0 e3
              exact .inl ⟨rfl, gives_value (v := .string (s0 ++ x1)) (w' := W) (by go_simp) ⟨Below.refl _ _, fun u hu => by cases hu; rfl⟩⟩
            | 5, _, rfl =>
              exact .inl ⟨rfl, gives_value (v := .pointer (some ⟨w.heap.size, 7, none⟩)) (w' := W) (by go_simp) ⟨Below.refl _ _, fun u hu => by cases hu; rfl⟩⟩
            | 6, _, rfl =>
              have e5 : v5 = _ := hphi ⟨5, .data⟩ (by simp) rfl v5 rfl _ rfl
              subst e5
              exact .inl ⟨rfl, gives_value (v := .int .i64 (tn : Int)) (w' := W) (by go_simp) ⟨Below.refl _ _, fun u hu => by cases hu; rfl⟩⟩
            | 7, _, rfl =>
              have e6 : v6 = _ := hphi ⟨6, .data⟩ (by simp) rfl v6 rfl _ rfl
              subst e6
              refine .inl ⟨rfl, gives_call (f := 170) (args := #[.int .i64 (tn : Int)]) (by go_simp) ((HX2.out W).mono ?_)⟩
              rintro e W' ⟨rfl, hb2⟩
              exact ⟨_, rfl, hb2, fun u hu => by cases hu; rfl⟩
            | 8, _, rfl =>
              have e4 : v4 = _ := hphi ⟨4, .data⟩ (by simp) rfl v4 rfl _ rfl
              have e7 : v7 = _ := hphi ⟨7, .data⟩ (by simp) rfl v7 rfl _ rfl
              subst e4 e7
              exact .inl ⟨rfl, gives_value (v := .string (s0 ++ x1 ++ x2)) (w' := W) (by go_simp) ⟨Below.refl _ _, fun u hu => by cases hu; rfl⟩⟩
            | 9, _, rfl =>
              exact .inl ⟨rfl, gives_value (v := .pointer (some ⟨w.heap.size, 8, none⟩)) (w' := W) (by go_simp) ⟨Below.refl _ _, fun u hu => by cases hu; rfl⟩⟩
            | 10, _, rfl =>
              have e9 : v9 = _ := hphi ⟨9, .data⟩ (by simp) rfl v9 rfl _ rfl
              subst e9
              exact .inl ⟨rfl, gives_value (v := .string msg) (w' := W) (by go_simp) ⟨Below.refl _ _, fun u hu => by cases hu; rfl⟩⟩
            | 11, _, rfl =>
              have e10 : v10 = _ := hphi ⟨10, .data⟩ (by simp) rfl v10 rfl _ rfl
              subst e10
              refine .inl ⟨rfl, gives_call (f := 171) (args := #[.string msg]) (by go_simp) ((HX3.out W).mono ?_)⟩
              rintro e W' ⟨rfl, hb2⟩
              exact ⟨_, rfl, hb2, fun u hu => by cases hu; rfl⟩
            | 12, _, rfl =>
              have e8 : v8 = _ := hphi ⟨8, .data⟩ (by simp) rfl v8 rfl _ rfl
              have e11 : v11 = _ := hphi ⟨11, .data⟩ (by simp) rfl v11 rfl _ rfl
              subst e8 e11
              exact .inl ⟨rfl, gives_value (v := .string (s0 ++ x1 ++ x2 ++ x3)) (w' := W) (by go_simp) ⟨Below.refl _ _, fun u hu => by cases hu; rfl⟩⟩
            | i + 13, hi, _ => exact absurd hi (by omega)
          case tailC =>
            intro vs W hv hR hphi
            obtain ⟨v0, v1, v2, v3, v4, v5, v6, v7, v8, v9, v10, v11, v12, rfl⟩ := ls13 hv
            simp only [List.zip, List.zipWith, putAll, Act.put, List.setIfInBounds_toArray, List.set, List.drop]
            have e0 : v0 = _ := hphi 0 v0 rfl _ rfl
            have e1 : v1 = _ := hphi 1 v1 rfl _ rfl
            have e2 : v2 = _ := hphi 2 v2 rfl _ rfl
            have e3 : v3 = _ := hphi 3 v3 rfl _ rfl
            have e4 : v4 = _ := hphi 4 v4 rfl _ rfl
            have e5 : v5 = _ := hphi 5 v5 rfl _ rfl
            have e6 : v6 = _ := hphi 6 v6 rfl _ rfl
            have e7 : v7 = _ := hphi 7 v7 rfl _ rfl
            have e8 : v8 = _ := hphi 8 v8 rfl _ rfl
            have e9 : v9 = _ := hphi 9 v9 rfl _ rfl
            have e10 : v10 = _ := hphi 10 v10 rfl _ rfl
            have e11 : v11 = _ := hphi 11 v11 rfl _ rfl
            have e12 : v12 = _ := hphi 12 v12 rfl _ rfl
            subst e0 e1 e2 e3 e4 e5 e6 e7 e8 e9 e10 e11 e12
            clear hphi hv
            have HBz : Hid (Below w.heap.size w W) := HBw.out.trans (hR.mono HBw.out.size)
            clear hR
            go_wp2_with fail
            go_ret
            exact ⟨by rw [← HEE.out]; rfl, HBz.out⟩
end Go.Proofs.YtmdhlkkekidknaaGreatDoor

namespace Go.Proofs.YtmdhlkkekidknaaGreatDoor
open Go.RowKit

structure ObB (o : Ob) : Prop where
  tree : WfD o.tree
  pars : ∀ d ∈ o.pars, WfD d
  auth : o.auth.size ≤ 1000000
  msg : o.msg.size ≤ 1000000
  t0 : 0 ≤ o.time
  t1 : o.time ≤ 1099511627776
  es : ∀ e ∈ o.ents, e.nm.size ≤ 1000000
  ew : ∀ e ∈ o.ents, WfD e.dg
set_option maxHeartbeats 2000000 in
theorem check7_any (o : Ob) (s : Osl) (B : Nat) (w : World) (hm : ObM w B o s) (hB : B ≤ w.heap.size) (hb : ObB o) :
    Calls Tryz.prog 82 #[obV o s] w (ChE (OkO o) w) := by
  obtain ⟨W0, hW⟩ : ∃ W, w.alloc (.cells (obC o s) 82) = W := ⟨_, rfl⟩
  have HB0 : Hid (Below w.heap.size w W0) := by rw [← hW]; exact (Below.refl _ w).alloc (Nat.le_refl _) _
  have HK0 : Hid (Bk W0 w.heap.size 82 (obC o s)) := by rw [← hW]; exact Bk.new w _ _
  have zk : w.heap.size < W0.heap.size := HK0.out.lt
  have HM := Lib.hid hm
  have HF := Lib.hid (fields7_any o s B W0 (hm.below (HB0.out.mono hB) (Nat.le_refl _)) (by omega) hb.tree hb.pars hb.auth hb.msg hb.t0 hb.t1 hb.es hb.ew)
  have HE := Lib.hid (fun W h1 h2 h3 => encode7_any o s B W h1 h2 h3)
  have HOF : Hid (OkO o → OkF o) := fun h => h.f
  have HOL : Hid (OkO o → (encO o).length ≤ 65536) := fun h => h.len
  have HOK : Hid (OkF o → (encO o).length ≤ 65536 → OkO o) := fun h1 h2 => ⟨h1, h2⟩
  obtain ⟨bs, hbs⟩ : ∃ bs, ofL (encO o) = bs := ⟨_, rfl⟩
  have hsz : bs.size = (encO o).length := by rw [← hbs]; rfl
  unfold Str7E at HE
  rw [hbs] at HE
  rw [← hsz] at HOL HOK
  generalize OkO o = p at *
  generalize hq : OkF o = q at *
  obtain ⟨kind, data, ents, ⟨t1, t2⟩, pars, auth, time, msg⟩ := o
  obtain ⟨eA, en, ec, pA, pn, pc⟩ := s
  simp only [obV, obC] at hW HK0 HF HE ⊢
  obtain ⟨c0, c1, c2, c3, c4, c5, c6, c7, c8⟩ := HK0.out.nine
  clear hm hbs hsz hb hq
  go_enter Tryz.func82, Tryz.ntmps82
  go_wp2_with fail
  refine HF.out.mono ?_
  rintro e w1 ⟨z, rfl, hz, hb1⟩
  have HZ := Lib.hid hz
  have HB1 : Hid (Below w.heap.size w w1) := HB0.out.trans (hb1.mono HB0.out.size)
  have HK1 := Lib.hid (HK0.out.below hb1 zk)
  clear hz hb1 hW c0 c1 c2 c3 c4 c5 c6 c7 c8
  obtain ⟨c0, c1, c2, c3, c4, c5, c6, c7, c8⟩ := HK1.out.nine
  by_cases h0 : z = 0
  case neg =>
    have hzn : (z != 0) = true := by rw [bne_iff_ne]; exact h0
    have HN : Hid (¬ p) := fun h => h0 (HZ.out.2 (HOF.out h))
    have HZN := Lib.hid h0
    clear h0
    go_wp2_with fail
    go_ret
    exact ChE.no HZN.out HN.out HB1.out
  subst h0
  have HQ := Lib.hid (HZ.out.1 rfl)
  go_wp2_with (first | (go_at_call 122; refine (HE.out w1 (HM.out.below (HB1.out.mono hB) (Nat.le_refl _)) (by have := HB1.out.size; omega) HQ.out).mono ?_; rintro e w2 ⟨rfl, hb2⟩; refine halt_ ?_))
  refine unhalt ?_
  have HB2 : Hid (Below w.heap.size w w2) := HB1.out.trans (hb2.mono HB1.out.size)
  clear hb2
  by_cases hl : 65536 < bs.size
  · have hlz : (65536 : Int) < (bs.size : Int) := by omega
    have HN : Hid (¬ p) := fun h => by have := HOL.out h; omega
    clear hl
    go_wp2_with fail
    go_ret
    exact ChE.no (by decide) HN.out HB2.out
  · have hlz : ¬ (65536 : Int) < (bs.size : Int) := by omega
    have HY := Lib.hid (HOK.out HQ.out (by omega))
    clear hl
    go_wp2_with fail
    go_ret
    exact ChE.yes HY.out HB2.out
def EnP (p : Prop) (bs : ByteArray) (w : World) (e : Ending) (w' : World) : Prop := ((p ∧ e = .returned (.tuple #[.string bs, .int .i64 0])) ∨ (¬ p ∧ ∃ z, z ≠ 0 ∧ e = .returned (.tuple #[.string ⟨#[]⟩, .int .i64 z]))) ∧ Below w.heap.size w w'
def En7 (o : Ob) (w : World) (e : Ending) (w' : World) : Prop := EnP (OkO o) (ofL (encO o)) w e w'
set_option maxHeartbeats 2000000 in
theorem encodeF7_any (o : Ob) (s : Osl) (B : Nat) (w : World) (hm : ObM w B o s) (hB : B ≤ w.heap.size) (hb : ObB o) :
    Calls Tryz.prog 126 #[obV o s] w (En7 o w) := by
  obtain ⟨W0, hW⟩ : ∃ W, w.alloc (.cells (obC o s) 82) = W := ⟨_, rfl⟩
  have HB0 : Hid (Below w.heap.size w W0) := by rw [← hW]; exact (Below.refl _ w).alloc (Nat.le_refl _) _
  have HK0 : Hid (Bk W0 w.heap.size 82 (obC o s)) := by rw [← hW]; exact Bk.new w _ _
  have zk : w.heap.size < W0.heap.size := HK0.out.lt
  have HM := Lib.hid hm
  have HF := Lib.hid (check7_any o s B W0 (hm.below (HB0.out.mono hB) (Nat.le_refl _)) (by omega) hb)
  have HE := Lib.hid (fun W h1 h2 (h3 : OkO o) => encode7_any o s B W h1 h2 h3.f)
  show Calls _ _ _ w (EnP (OkO o) (ofL (encO o)) w)
  obtain ⟨bs, hbs⟩ : ∃ bs, ofL (encO o) = bs := ⟨_, rfl⟩
  unfold Str7E at HE
  rw [hbs] at HE ⊢
  generalize OkO o = p at *
  obtain ⟨kind, data, ents, ⟨t1, t2⟩, pars, auth, time, msg⟩ := o
  obtain ⟨eA, en, ec, pA, pn, pc⟩ := s
  simp only [obV, obC] at hW HK0 HF HE ⊢
  obtain ⟨c0, c1, c2, c3, c4, c5, c6, c7, c8⟩ := HK0.out.nine
  clear hm hbs hb
  go_enter Tryz.func126, Tryz.ntmps126
  go_wp2_with fail
  refine HF.out.mono ?_
  rintro e w1 ⟨z, rfl, hz, hb1⟩
  have HZ := Lib.hid hz
  have HB1 : Hid (Below w.heap.size w w1) := HB0.out.trans (hb1.mono HB0.out.size)
  have HK1 := Lib.hid (HK0.out.below hb1 zk)
  clear hz hb1 hW c0 c1 c2 c3 c4 c5 c6 c7 c8
  obtain ⟨c0, c1, c2, c3, c4, c5, c6, c7, c8⟩ := HK1.out.nine
  by_cases h0 : z = 0
  case neg =>
    have hzn : (z != 0) = true := by rw [bne_iff_ne]; exact h0
    have HN : Hid (¬ p) := fun h => h0 (HZ.out.2 h)
    have HZN := Lib.hid h0
    clear h0
    go_wp2_with fail
    go_ret2
    exact ⟨.inr ⟨HN.out, z, HZN.out, rfl⟩, HB1.out⟩
  subst h0
  have HQ := Lib.hid (HZ.out.1 rfl)
  go_wp2_with (first | (go_at_call 122; refine (HE.out w1 (HM.out.below (HB1.out.mono hB) (Nat.le_refl _)) (by have := HB1.out.size; omega) HQ.out).mono ?_; rintro e w2 ⟨rfl, hb2⟩; refine halt_ ?_))
  refine unhalt ?_
  have HB2 : Hid (Below w.heap.size w w2) := HB1.out.trans (hb2.mono HB1.out.size)
  clear hb2
  go_wp2_with fail
  go_ret2
  exact ⟨.inl ⟨HQ.out, rfl⟩, HB2.out⟩
end Go.Proofs.YtmdhlkkekidknaaGreatDoor

namespace Go.Proofs.YtmdhlkkekidknaaGreatDoor
open Go.RowKit

structure DeSt (w W : World) (x : Array Value) (r : Bytes) (bad : Bool) : Prop where
  z : Bk W w.heap.size 82 #[.int .i64 0, .string ⟨#[]⟩, .slice none 0 0, .int .u64 0, .int .u64 0, .slice none 0 0, .string ⟨#[]⟩, .int .i64 0, .string ⟨#[]⟩]
  r : Bk W (w.heap.size + 1) 152 #[.string (ofL r), .bool bad]
  o : Bk W (w.heap.size + 1 + 1) 82 x
  b : Below w.heap.size w W
theorem DeSt.lt {w W : World} {x : Array Value} {r : Bytes} {bad : Bool} (h : DeSt w W x r bad) : w.heap.size + 3 ≤ W.heap.size := by have := h.o.lt; omega
theorem DeSt.read {w W W' : World} {x : Array Value} {r r' : Bytes} {bad bad' : Bool} (h : DeSt w W x r bad) (hr : Bk W' (w.heap.size + 1) 152 #[.string (ofL r'), .bool bad']) (hg : Gb (fun g => g = w.heap.size + 1) W W') : DeSt w W' x r' bad' :=
  ⟨hg.bk h.z (by show ¬ w.heap.size = w.heap.size + 1; omega), hr, hg.bk h.o (by show ¬ w.heap.size + 1 + 1 = w.heap.size + 1; omega), h.b.trans (hg.below h.b.size (fun q hq e => by omega))⟩
theorem DeSt.set {w W : World} {x : Array Value} {r : Bytes} {bad : Bool} (h : DeSt w W x r bad) (k : Nat) (v : Value) : DeSt w (W.setCell ⟨w.heap.size + 1 + 1, k, none⟩ v) (x.setIfInBounds k v) r bad :=
  ⟨h.z.far (p := ⟨w.heap.size + 1 + 1, k, none⟩) (by show w.heap.size ≠ w.heap.size + 1 + 1; omega) _, h.r.far (p := ⟨w.heap.size + 1 + 1, k, none⟩) (by show w.heap.size + 1 ≠ w.heap.size + 1 + 1; omega) _, h.o.set k v, Below.setCell h.b (p := ⟨w.heap.size + 1 + 1, k, none⟩) (by show w.heap.size ≤ w.heap.size + 1 + 1; omega) _⟩
theorem DeSt.below {w W W' : World} {x : Array Value} {r : Bytes} {bad : Bool} (h : DeSt w W x r bad) (hb : Below (w.heap.size + 3) W W') : DeSt w W' x r bad :=
  ⟨h.z.below hb (by omega), h.r.below hb (by omega), h.o.below hb (by omega), h.b.trans (hb.mono (by omega))⟩
def DecE (s : ByteArray) (w : World) (e : Ending) (w' : World) : Prop :=
  ((∃ o sl, OkO o ∧ s = ofL (encO o) ∧ e = .returned (.tuple #[obV o sl, .int .i64 0]) ∧ ObM w' w'.heap.size o sl) ∨ ((∀ o, OkO o → s ≠ ofL (encO o)) ∧ e = .returned (.tuple #[.agg #[.int .i64 0, .string ⟨#[]⟩, .slice none 0 0, .int .u64 0, .int .u64 0, .slice none 0 0, .string ⟨#[]⟩, .int .i64 0, .string ⟨#[]⟩], .int .i64 13]))) ∧ Below w.heap.size w w'
theorem decE_bad {s : ByteArray} {o : Ob} {r : Bytes} (hp : pz7 (toL s) = (o, r, true)) : ∀ o', OkO o' → s ≠ ofL (encO o') := fun o' ho e => by
  rw [e, toL_ofL, pz7_enc ho] at hp; cases hp
theorem decE_not {s : ByteArray} {o : Ob} {st : St} (hp : pz7 (toL s) = (o, st)) (hn : ¬ (OkO o ∧ ofL (encO o) = s)) : ∀ o', OkO o' → s ≠ ofL (encO o') := fun o' ho e => by
  have := hp
  rw [e, toL_ofL, pz7_enc ho] at this; cases this; exact hn ⟨ho, e.symm⟩
theorem pz7_two {s r2 : Bytes} {bad2 : Bool} (h : rn (s, false) = (2, r2, bad2)) : pz7 s = (⟨2, ⟨#[]⟩, (rE (rn (r2, bad2)).1 (rn (r2, bad2)).2).1, zD, [], ⟨#[]⟩, 0, ⟨#[]⟩⟩, (rE (rn (r2, bad2)).1 (rn (r2, bad2)).2).2) := by
  unfold pz7; simp only [h]; rfl
theorem pz7_three {s r2 : Bytes} {bad2 : Bool} (h : rn (s, false) = (3, r2, bad2)) : pz7 s = (let t := rg (r2, bad2); let n := rn t.2; let q := rD n.1 n.2; let a := rt q.2; let i := rn a.2; let m := rt i.2
    (⟨3, ⟨#[]⟩, [], t.1, q.1, ofL a.1, (i.1 : Int), ofL m.1⟩, m.2)) := by
  unfold pz7; simp only [h]; rfl
theorem pz7_other {s r2 : Bytes} {k : Nat} {bad2 : Bool} (h : rn (s, false) = (k, r2, bad2)) (h2 : k ≠ 2) (h3 : k ≠ 3) : pz7 s = (⟨(k : Int), ofL (rt (r2, bad2)).1, [], zD, [], ⟨#[]⟩, 0, ⟨#[]⟩⟩, (rt (r2, bad2)).2) := by
  unfold pz7; simp only [h, if_neg h2, if_neg h3]
theorem rE_step {n j : Nat} {st0 : St} {es : List Ent} {r t r1 r2 r3 : Bytes} {x : Nat} {d : Dig} {b1 b2 b3 : Bool} (h : rE n st0 = (es ++ (rE (n - j) (r, false)).1, (rE (n - j) (r, false)).2)) (hj : j < n)
    (h1 : rt (r, false) = (t, r1, b1)) (h2 : rn (r1, b1) = (x, r2, b2)) (h3 : rg (r2, b2) = (d, r3, b3)) :
    rE n st0 = ((es ++ [⟨ofL t, decide (x = 1), d⟩]) ++ (rE (n - (j + 1)) (r3, b3)).1, (rE (n - (j + 1)) (r3, b3)).2) := by
  rw [show n - j = n - (j + 1) + 1 by omega, rE, if_neg (by simp), h1] at h
  simp only at h
  rw [h2] at h
  simp only at h
  rw [h3] at h
  rw [h]; simp
theorem rD_step {n j : Nat} {st0 : St} {es : List Dig} {r r3 : Bytes} {d : Dig} {b3 : Bool} (h : rD n st0 = (es ++ (rD (n - j) (r, false)).1, (rD (n - j) (r, false)).2)) (hj : j < n)
    (h3 : rg (r, false) = (d, r3, b3)) :
    rD n st0 = ((es ++ [d]) ++ (rD (n - (j + 1)) (r3, b3)).1, (rD (n - (j + 1)) (r3, b3)).2) := by
  rw [show n - j = n - (j + 1) + 1 by omega, rD, if_neg (by simp), h3] at h
  rw [h]; simp
theorem rE_end {n j : Nat} {st0 : St} {es : List Ent} {r : Bytes} {b : Bool} (h : rE n st0 = (es ++ (rE (n - j) (r, b)).1, (rE (n - j) (r, b)).2)) (hj : n ≤ j ∨ b = true) : rE n st0 = (es, r, b) := by
  have e : rE (n - j) (r, b) = ([], r, b) := by
    rcases hj with hj | hj
    · rw [show n - j = 0 by omega]; rfl
    · subst hj
      cases n - j with
      | zero => rfl
      | succ m => rw [rE, if_pos rfl]
  rw [h, e, List.append_nil]
theorem rD_end {n j : Nat} {st0 : St} {es : List Dig} {r : Bytes} {b : Bool} (h : rD n st0 = (es ++ (rD (n - j) (r, b)).1, (rD (n - j) (r, b)).2)) (hj : n ≤ j ∨ b = true) : rD n st0 = (es, r, b) := by
  have e : rD (n - j) (r, b) = ([], r, b) := by
    rcases hj with hj | hj
    · rw [show n - j = 0 by omega]; rfl
    · subst hj
      cases n - j with
      | zero => rfl
      | succ m => rw [rD, if_pos rfl]
  rw [h, e, List.append_nil]
theorem rg_adv {st : St} (h : (rg st).2.2 = false) : (rg st).2.1.length + 16 ≤ st.1.length := by
  unfold rg at h ⊢
  split at h
  · cases h
  · rename_i hn
    rw [if_neg hn]
    simp at hn ⊢
    omega
def Far (j : Nat) (r : Bytes) (bad : Bool) (k : Nat) : Prop := bad = false → j + r.length ≤ k
theorem Far.step {j k : Nat} {r r' : Bytes} {b b' : Bool} {st : St} {d : Dig} (h : Far j r b k) (hb : b = false) (h3 : rg st = (d, r', b')) (hl : st.1.length ≤ r.length) : Far (j + 1) r' b' k := fun e => by
  have := @rg_adv st (by rw [h3]; exact e)
  rw [h3] at this
  have := h hb
  simp only at *
  omega
set_option maxRecDepth 100000 in
set_option maxHeartbeats 8000000 in
theorem decode7_any (s : ByteArray) (w : World) (hs : s.size ≤ 1000000) : Calls Tryz.prog 85 #[.string s] w (DecE s w) := by
  have HS := Lib.hid hs
  have hsl : (toL s).length ≤ 1000000 := by rw [← size_toL]; exact hs
  have HLN : Hid (∀ r : Bytes, r.length ≤ (toL s).length → r.length ≤ 1000000) := fun r h => by omega
  obtain ⟨W1, hW1⟩ : ∃ W, ((w.alloc (.cells #[.int .i64 0, .string ⟨#[]⟩, .slice none 0 0, .int .u64 0, .int .u64 0, .slice none 0 0, .string ⟨#[]⟩, .int .i64 0, .string ⟨#[]⟩] 82)).alloc (.cells #[.string s, .bool false] 152)).alloc (.cells #[.int .i64 0, .string ⟨#[]⟩, .slice none 0 0, .int .u64 0, .int .u64 0, .slice none 0 0, .string ⟨#[]⟩, .int .i64 0, .string ⟨#[]⟩] 82) = W := ⟨_, rfl⟩
  have HD1 : Hid (DeSt w W1 #[.int .i64 0, .string ⟨#[]⟩, .slice none 0 0, .int .u64 0, .int .u64 0, .slice none 0 0, .string ⟨#[]⟩, .int .i64 0, .string ⟨#[]⟩] (toL s) false) := by
    rw [← hW1]
    refine ⟨((Bk.new w _ _).alloc _).alloc _, ?_, ?_, (((Below.refl _ w).alloc (Nat.le_refl _) _).alloc (by simp) _).alloc (by simp; omega) _⟩
    · have := (Bk.new (w.alloc (.cells #[.int .i64 0, .string ⟨#[]⟩, .slice none 0 0, .int .u64 0, .int .u64 0, .slice none 0 0, .string ⟨#[]⟩, .int .i64 0, .string ⟨#[]⟩] 82)) 152 #[.string s, .bool false]).alloc (.cells #[.int .i64 0, .string ⟨#[]⟩, .slice none 0 0, .int .u64 0, .int .u64 0, .slice none 0 0, .string ⟨#[]⟩, .int .i64 0, .string ⟨#[]⟩] 82)
      rw [World.size_alloc] at this; exact this
    · have := Bk.new ((w.alloc (.cells #[.int .i64 0, .string ⟨#[]⟩, .slice none 0 0, .int .u64 0, .int .u64 0, .slice none 0 0, .string ⟨#[]⟩, .int .i64 0, .string ⟨#[]⟩] 82)).alloc (.cells #[.string s, .bool false] 152)) 82 #[.int .i64 0, .string ⟨#[]⟩, .slice none 0 0, .int .u64 0, .int .u64 0, .slice none 0 0, .string ⟨#[]⟩, .int .i64 0, .string ⟨#[]⟩]
      rw [World.size_alloc, World.size_alloc] at this; exact this
  obtain ⟨⟨k, r2, bad2⟩, hq⟩ : ∃ q, rn (toL s, false) = q := ⟨_, rfl⟩
  have HC1 := Lib.hid (rnum7_any (w.heap.size + 1) (toL s) false W1 HD1.out.r hsl)
  have h2l := rn_len (toL s, false)
  rw [hq] at HC1 h2l
  simp only at h2l HC1
  have HL2 : Hid (r2.length ≤ (toL s).length) := h2l.1
  have HK : Hid (k ≤ 1099511627776) := h2l.2
  clear h2l hs
  have HW1 := Lib.hid hW1
  clear hW1
  by_cases hk2 : k = 2
  · subst hk2
    have HP0 := Lib.hid (pz7_two hq)
    have HC2 : Hid (Calls Tryz.prog 123 #[.pointer (some ⟨w.heap.size + 1, 0, none⟩)] W1 (RzE (.int .i64 2) (w.heap.size + 1) (r2, bad2) W1)) := HC1.out
    clear HC1 hq
    go_enter Tryz.func85, Tryz.ntmps85
    go_wp2_with fail
    rw [HW1.out]
    refine HC2.out.mono ?_
    rintro e v2 ⟨rfl, hr, hg⟩
    have HDv := Lib.hid (HD1.out.read hr hg)
    clear hr hg HC2 HD1 HW1
    obtain ⟨y0, y1, y2, y3, y4, y5, y6, y7, y8⟩ := HDv.out.o.nine
    have f0 := HDv.out.o.free 0
    obtain ⟨W2, hW2⟩ : ∃ W, (v2.setCell ⟨w.heap.size + 1 + 1, 0, none⟩ (.int .i64 2)) = W := ⟨_, rfl⟩
    have HD2 : Hid (DeSt w W2 #[.int .i64 2, .string ⟨#[]⟩, .slice none 0 0, .int .u64 0, .int .u64 0, .slice none 0 0, .string ⟨#[]⟩, .int .i64 0, .string ⟨#[]⟩] r2 bad2) := by rw [← hW2]; exact (HDv.out.set 0 (.int .i64 2))
    clear HDv
    obtain ⟨c0, c1, c2, c3, c4, c5, c6, c7, c8⟩ := HD2.out.o.nine
    obtain ⟨⟨nn, r3, bad3⟩, hq⟩ : ∃ q, rn (r2, bad2) = q := ⟨_, rfl⟩
    have HC := Lib.hid (rnum7_any (w.heap.size + 1) r2 bad2 W2 HD2.out.r (HLN.out _ HL2.out))
    have hl := rn_len (r2, bad2)
    rw [hq] at HC hl
    have HQ3 := Lib.hid hq
    simp only at HC hl
    have HL3 : Hid (r3.length ≤ (toL s).length) := by have := HL2.out; show _ ≤ _; omega
    have HE3 := Lib.hid hl
    clear hq hl
    go_wp2_with fail
    refine HC.out.mono ?_
    rintro e W3 ⟨rfl, hr, hg⟩
    have HD3 := Lib.hid (HD2.out.read hr hg)
    clear hr hg HC HD2 hW2 c0 c1 c2 c3 c4 c5 c6 c7 c8 y0 y1 y2 y3 y4 y5 y6 y7 y8
    obtain ⟨i0, hi, hz0, hz1, hz2⟩ := info_parts infoEnt
    have Hi := Lib.hid hi; have Hz0 := Lib.hid hz0; have Hz1 := Lib.hid hz1; have Hz2 := Lib.hid hz2
    clear hi hz0 hz1 hz2
    have hsl := HS.out
    go_wp2_with fail
    go_loopw [7] (fun i wr => ∃ (j : Nat) (Aj : Option Addr) (cj : Nat) (rj : Bytes) (bj : Bool) (es : List Ent), i = .int .i64 (j : Int) ∧ j ≤ 1000001 ∧ j ≤ cj ∧ cj ≤ maxLen ∧ Hid (Apd wr (w.heap.size + 1 + 1 + 1) 102 4 Aj j cj (flat enC es)) ∧ Hid (DeSt w wr #[.int .i64 2, .string ⟨#[]⟩, .slice Aj j cj, .int .u64 0, .int .u64 0, .slice none 0 0, .string ⟨#[]⟩, .int .i64 0, .string ⟨#[]⟩] rj bj) ∧ Hid (rE nn (r3, bad3) = (es ++ (rE (nn - j) (rj, bj)).1, (rE (nn - j) (rj, bj)).2)) ∧ Hid (rj.length ≤ r3.length) ∧ Hid (Far j rj bj r3.length)) (fun i _ => nn - (intOf i).toNat)
    case atStart => exact ⟨0, none, 0, r3, bad3, [], rfl, Nat.zero_le _, Nat.le_refl _, Nat.zero_le _, .inr ⟨rfl, rfl, rfl⟩, HD3.out, by show _ = _; simp, Nat.le_refl _, fun _ => by omega⟩
    case round =>
      obtain ⟨j, Aj, cj, rj, bj, es, rfl, hj, hjc, hcm, hA, hD, hE, hrl, hF⟩ := hrel
      obtain ⟨WX, hwx⟩ : ∃ wo, wo = wr := ⟨_, rfl⟩
      subst hwx
      clear HD3
      have HLj : Hid (rj.length ≤ (toL s).length) := by have := hrl.out; have := HL3.out; show _ ≤ _; omega
      obtain ⟨x0, x1, _, _⟩ := hD.out.r.two
      have zX := hD.out.lt
      by_cases hlt : j < nn
      · have hlz : (j : Int) < (nn : Int) := by omega
        cases bj with
        | true =>
          have HX := Lib.hid (rE_end hE.out (.inr rfl))
          clear hE hF
          have HP : Hid (pz7 (toL s) = (⟨2, ⟨#[]⟩, es, zD, [], ⟨#[]⟩, 0, ⟨#[]⟩⟩, (rj, true))) := by show _ = _; rw [HP0.out, HQ3.out]; simp only; rw [HX.out]
          have HOK7 : Hid (∀ e ∈ es, e.nm.size ≤ 1000000 ∧ WfD e.dg) := fun e he => by
            have h1 := (rE_ok nn (r3, bad3)).1
            rw [HX.out] at h1
            have h2 := h1 e he
            have h3 := HLN.out _ HL3.out
            exact ⟨Nat.le_trans h2.1 h3, h2.2⟩
          have HDX := hD
          have hWX : True := trivial
          have c0 := True; have c1 := True; have c2 := True; have c3 := True; have c4 := True; have c5 := True; have c6 := True; have c7 := True; have c8 := True; have y0 := True; have y1 := True; have y2 := True; have y3 := True; have y4 := True; have y5 := True; have y6 := True; have y7 := True; have y8 := True
          clear x0 x1
          have HM : Hid (ObM WX WX.heap.size ⟨2, ⟨#[]⟩, es, zD, [], ⟨#[]⟩, 0, ⟨#[]⟩⟩ ⟨Aj, j, cj, none, 0, 0⟩) := ⟨hA.out.sl, Sl.nil _ _ _ _, hjc, hcm, Nat.le_refl _, Nat.zero_le _⟩
          have HCK := Lib.hid (encodeF7_any ⟨2, ⟨#[]⟩, es, zD, [], ⟨#[]⟩, 0, ⟨#[]⟩⟩ ⟨Aj, j, cj, none, 0, 0⟩ WX.heap.size WX HM.out (Nat.le_refl _) ⟨wf_zD, (fun d h => by cases h), Nat.zero_le _, Nat.zero_le _, Int.le_refl _, by show (0 : Int) ≤ _; omega, fun e he => (HOK7.out e he).1, fun e he => (HOK7.out e he).2⟩)
          obtain ⟨op, hop⟩ : ∃ op : Ob, op = ⟨2, ⟨#[]⟩, es, zD, [], ⟨#[]⟩, 0, ⟨#[]⟩⟩ := ⟨_, rfl⟩
          obtain ⟨osl, hosl⟩ : ∃ osl : Osl, osl = ⟨Aj, j, cj, none, 0, 0⟩ := ⟨_, rfl⟩
          have HOP := Lib.hid hop
          have HOS := Lib.hid hosl
          rw [← hop] at HP
          rw [← hop, ← hosl] at HM
          obtain ⟨bs, hbs⟩ : ∃ bs, ofL (encO op) = bs := ⟨_, rfl⟩
          have HBAD : Hid ((true = true ∨ ¬ (OkO op ∧ bs = s)) → ∀ o', OkO o' → s ≠ ofL (encO o')) := fun h => by
            rcases h with h | h
            · have hp := HP.out
              rw [h] at hp; exact decE_bad hp
            · rw [← hbs] at h; exact decE_not HP.out h
          unfold En7 at HCK
          rw [← hop, hbs] at HCK
          have HBS := Lib.hid hbs
          obtain ⟨p, hp⟩ : ∃ p, OkO op = p := ⟨_, rfl⟩
          have HPE := Lib.hid hp
          rw [hp] at HBAD HCK
          rw [hop] at HCK
          simp only [obV, obC] at HCK
          clear c0 c1 c2 c3 c4 c5 c6 c7 c8
          obtain ⟨c0, c1, c2, c3, c4, c5, c6, c7, c8⟩ := HDX.out.o.nine
          obtain ⟨x0, x1, _, _⟩ := HDX.out.r.two
          clear hop hosl hbs hp HP0 HP
          go_wp2_with fail
          refine HCK.out.mono ?_
          rintro e w8 ⟨hq, hb8⟩
          have HD8 := Lib.hid (HDX.out.below (hb8.mono HDX.out.lt))
          have HM8 := Lib.hid ((HM.out.below hb8 (Nat.le_refl _)).more hb8.size)
          have HA8 := Lib.hid (hA.out.below hb8)
          clear c0 c1 c2 c3 c4 c5 c6 c7 c8 y0 y1 y2 y3 y4 y5 y6 y7 y8 x0 x1 hb8 HCK hWX HM
          obtain ⟨c0, c1, c2, c3, c4, c5, c6, c7, c8⟩ := HD8.out.o.nine
          obtain ⟨x0, x1, _, _⟩ := HD8.out.r.two
          obtain ⟨d0, d1', d2', d3, d4, d5, d6, d7, d8⟩ := HD8.out.z.nine
          have g0 := HD8.out.z.free 0; have g1 := HD8.out.z.free 1; have g2 := HD8.out.z.free 2; have g3 := HD8.out.z.free 3; have g4 := HD8.out.z.free 4; have g5 := HD8.out.z.free 5; have g6 := HD8.out.z.free 6; have g7 := HD8.out.z.free 7; have g8 := HD8.out.z.free 8
          have hne : w.heap.size ≠ w.heap.size + 1 + 1 := by omega
          have HB := Lib.hid (HBAD.out (.inl (by trivial)))
          rcases hq with ⟨hp, rfl⟩ | ⟨hp, z, hz, rfl⟩
          · clear hp
            go_wp2_with fail
            refine bodyPost_ret (res_cellOb Tryz.results85 rfl (bk_set9 HD8.out.z _ _ _ _ _ _ _ _ _) rfl) rfl ⟨.inr ⟨HB.out, rfl⟩, below_set9 HD8.out.b (Nat.le_refl _) _ _ _ _ _ _ _ _ _⟩
          · have hzn : (z != 0) = true := by rw [bne_iff_ne]; exact hz
            clear hp hz
            go_wp2_with fail
            refine bodyPost_ret (res_cellOb Tryz.results85 rfl (bk_set9 HD8.out.z _ _ _ _ _ _ _ _ _) rfl) rfl ⟨.inr ⟨HB.out, rfl⟩, below_set9 HD8.out.b (Nat.le_refl _) _ _ _ _ _ _ _ _ _⟩
        | false =>
          have hjr : j + 1 ≤ 1000001 := by have h1 := hF.out rfl; have h2 := HLN.out _ HL3.out; omega
          obtain ⟨W5, hW5⟩ : ∃ W, WX.alloc (.cells #[.string ⟨#[]⟩, .bool false, .int .u64 0, .int .u64 0] 102) = W := ⟨_, rfl⟩
          have hb5 : Below WX.heap.size WX W5 := by rw [← hW5]; exact (Below.refl _ WX).alloc (Nat.le_refl _) _
          have HG5 : Hid (Gb (fun g => g = w.heap.size + 1) WX W5) := Gb.of_below hb5
          have HE5 : Hid (Bk W5 WX.heap.size 102 #[.string ⟨#[]⟩, .bool false, .int .u64 0, .int .u64 0]) := by rw [← hW5]; exact Bk.new WX _ _
          have HR5 : Hid (Bk W5 (w.heap.size + 1) 152 #[.string (ofL rj), .bool false]) := hD.out.r.below hb5 (by omega)
          obtain ⟨⟨t, ra, ba⟩, hqa⟩ : ∃ q, rt (rj, false) = q := ⟨_, rfl⟩
          obtain ⟨⟨x, rb, bb⟩, hqb⟩ : ∃ q, rn (ra, ba) = q := ⟨_, rfl⟩
          obtain ⟨⟨⟨d1, d2⟩, rc, bc⟩, hqc⟩ : ∃ q, rg (rb, bb) = q := ⟨_, rfl⟩
          have hla := rt_len (rj, false); have hlb := rn_len (ra, ba); have hlc := rg_len (rb, bb)
          rw [hqa] at hla; rw [hqb] at hlb; rw [hqc] at hlc
          simp only at hla hlb hlc
          have HST := Lib.hid (rE_step hE.out hlt hqa hqb hqc)
          have HFA : Hid (Far (j + 1) rc bc r3.length) := hF.out.step rfl hqc (by simp only; omega)
          have HLc : Hid (rc.length ≤ r3.length) := by show _ ≤ _; have := hrl.out; omega
          have HLa : Hid (ra.length ≤ 1000000) := by show _ ≤ _; have := HLN.out _ HLj.out; omega
          have HLb : Hid (rb.length ≤ 1000000) := by show _ ≤ _; have := HLN.out _ HLj.out; omega
          have HC := Lib.hid (rtxt7_any (w.heap.size + 1) rj false W5 HR5.out (HLN.out _ HLj.out))
          rw [hqa] at HC
          have HQA := Lib.hid hqa; have HQB := Lib.hid hqb; have HQC := Lib.hid hqc
          have HW5 := Lib.hid hW5
          clear hqa hqb hqc hla hlb hlc hE hF hrl hb5 hW5
          go_wp2_with fail
          rw [HW5.out]
          refine HC.out.mono ?_
          rintro e v6 ⟨rfl, hr6, hg6⟩
          have HG6 := Lib.hid (HG5.out.trans hg6)
          have HE6 := Lib.hid (hg6.bk HE5.out (by show ¬ WX.heap.size = w.heap.size + 1; omega))
          have HR6 := Lib.hid hr6
          clear hr6 hg6 HC HG5 HE5 HR5 HW5
          obtain ⟨y0, y1, y2, y3⟩ := HE6.out.four
          have f0 := HE6.out.free 0
          obtain ⟨W7, hW7⟩ : ∃ W, v6.setCell ⟨WX.heap.size, 0, none⟩ (.string (ofL t)) = W := ⟨_, rfl⟩
          have HG7 : Hid (Gb (fun g => g = w.heap.size + 1) WX W7) := by rw [← hW7]; exact HG6.out.after (Nat.le_refl _) 0 _
          have HE7 : Hid (Bk W7 WX.heap.size 102 #[.string (ofL t), .bool false, .int .u64 0, .int .u64 0]) := by rw [← hW7]; exact HE6.out.set 0 (.string (ofL t))
          have HR7 : Hid (Bk W7 (w.heap.size + 1) 152 #[.string (ofL ra), .bool ba]) := by rw [← hW7]; exact HR6.out.far (p := ⟨WX.heap.size, 0, none⟩) (by show w.heap.size + 1 ≠ WX.heap.size; omega) _
          have HC := Lib.hid (rnum7_any (w.heap.size + 1) ra ba W7 HR7.out HLa.out)
          rw [HQB.out] at HC
          clear HG6 HE6 HR6
          go_wp2_with fail
          refine HC.out.mono ?_
          rintro e v8 ⟨rfl, hr8, hg8⟩
          have HG8 := Lib.hid (HG7.out.trans hg8)
          have HE8 := Lib.hid (hg8.bk HE7.out (by show ¬ WX.heap.size = w.heap.size + 1; omega))
          have HR8 := Lib.hid hr8
          clear hr8 hg8 HC HG7 HE7 HR7 hW7 y0 y1 y2 y3 f0
          obtain ⟨y0, y1, y2, y3⟩ := HE8.out.four
          have f1 := HE8.out.free 1
          have hx1 : ((x : Int) == 1) = decide (x = 1) := by rw [Bool.eq_iff_iff]; simp; omega
          obtain ⟨W9, hW9⟩ : ∃ W, v8.setCell ⟨WX.heap.size, 1, none⟩ (.bool (decide (x = 1))) = W := ⟨_, rfl⟩
          have HG9 : Hid (Gb (fun g => g = w.heap.size + 1) WX W9) := by rw [← hW9]; exact HG8.out.after (Nat.le_refl _) 1 _
          have HE9 : Hid (Bk W9 WX.heap.size 102 #[.string (ofL t), .bool (decide (x = 1)), .int .u64 0, .int .u64 0]) := by rw [← hW9]; exact HE8.out.set 1 (.bool (decide (x = 1)))
          have HR9 : Hid (Bk W9 (w.heap.size + 1) 152 #[.string (ofL rb), .bool bb]) := by rw [← hW9]; exact HR8.out.far (p := ⟨WX.heap.size, 1, none⟩) (by show w.heap.size + 1 ≠ WX.heap.size; omega) _
          have HC := Lib.hid (rdig7_any (w.heap.size + 1) rb bb W9 HR9.out HLb.out)
          rw [HQC.out] at HC
          clear HG8 HE8 HR8
          go_wp2_with fail
          refine HC.out.mono ?_
          rintro e v10 ⟨rfl, hr10, hg10⟩
          simp only [digV]
          have HG10 := Lib.hid (HG9.out.trans hg10)
          have HE10 := Lib.hid (hg10.bk HE9.out (by show ¬ WX.heap.size = w.heap.size + 1; omega))
          have HR10 := Lib.hid hr10
          clear hr10 hg10 HC HG9 HE9 HR9 hW9 y0 y1 y2 y3 f1 x0 x1
          obtain ⟨y0, y1, y2, y3⟩ := HE10.out.four
          have f2 := HE10.out.free 2; have f3 := HE10.out.free 3
          obtain ⟨W11, hW11⟩ : ∃ W, (v10.setCell ⟨WX.heap.size, 2, none⟩ (.int .u64 d1)).setCell ⟨WX.heap.size, 3, none⟩ (.int .u64 d2) = W := ⟨_, rfl⟩
          have HG11 : Hid (Gb (fun g => g = w.heap.size + 1) WX W11) := by rw [← hW11]; exact (HG10.out.after (Nat.le_refl _) 2 _).after (Nat.le_refl _) 3 _
          have HE11 : Hid (Bk W11 WX.heap.size 102 #[.string (ofL t), .bool (decide (x = 1)), .int .u64 d1, .int .u64 d2]) := by rw [← hW11]; exact (HE10.out.set 2 (.int .u64 d1)).set 3 (.int .u64 d2)
          have HR11 : Hid (Bk W11 (w.heap.size + 1) 152 #[.string (ofL rc), .bool bc]) := by rw [← hW11]; exact (HR10.out.far (p := ⟨WX.heap.size, 2, none⟩) (by show w.heap.size + 1 ≠ WX.heap.size; omega) _).far (p := ⟨WX.heap.size, 3, none⟩) (by show w.heap.size + 1 ≠ WX.heap.size; omega) _
          have HD11 := Lib.hid (hD.out.read HR11.out HG11.out)
          have HA11 := Lib.hid (hA.out.gb HG11.out (by omega))
          obtain ⟨u0, u1, u2, u3⟩ := HE11.out.four
          obtain ⟨c0, c1, c2, c3, c4, c5, c6, c7, c8⟩ := HD11.out.o.nine
          have hs11 : w.heap.size + 3 ≤ W11.heap.size := HD11.out.lt
          clear HG10 HE10 HR10 hD hA
          go_wp2_with (at_builtin; refine halt_orl (.tmp 53) (.tmp 55) 79 rfl ?_)
          refine unhalt ?_
          refine wpList_append_apd (base := (w.heap.size + 1 + 1 + 1)) (size := 4) _ rfl (.tmp 53) (.tmp 55) 79 rfl 102 i0 _ 40 Tryz.underlying79 Hi.out Hz0.out Hz1.out Hz2.out rfl (by decide) Aj j cj (flat enC es) rfl ?own_1 (W11.heap.size + 1) _ 1 _ (enC ⟨ofL t, decide (x = 1), (d1, d2)⟩) rfl ?nw_1 (by simp [enC, Value.oneCell']) ?m1_1 ?m2_1 ?m3_1 ?_
          case own_1 => exact HA11.out.below ((Below.refl _ W11).alloc (Nat.le_refl _) _)
          case nw_1 =>
            have := Sl.of_bk (n := 1) (size := 4) (Bk.new W11 102 #[.string (ofL t), .bool (decide (x = 1)), .int .u64 d1, .int .u64 d2]) rfl
            rw [World.size_alloc] at this; exact this
          case m1_1 => unfold maxLen; omega
          case m2_1 => omega
          case m3_1 => simp; omega
          intro A4 c4' w4 ha4 hb4 hn4 hm4 hok4
          have HA4 : Hid (Apd w4 (w.heap.size + 1 + 1 + 1) 102 4 A4 (j + 1) c4' (flat enC (es ++ [⟨ofL t, decide (x = 1), (d1, d2)⟩]))) := by
            show Apd _ _ _ _ _ _ _ _
            rw [flat_append]
            simpa [flat] using ha4
          have hbo : Below (w.heap.size + 3) W11 w4 := ((Below.refl (w.heap.size + 3) W11).alloc (by omega) _).trans hb4
          have HD4 := Lib.hid (HD11.out.below hbo)
          clear ha4 hb4 hok4 hbo HD11 HA11 HE11 HR11 HG11 hW11 c0 c1 c2 c3 c4 c5 c6 c7 c8 y0 y1 y2 y3 f2 f3 u0 u1 u2 u3
          obtain ⟨c0, c1, c2, c3, c4, c5, c6, c7, c8⟩ := HD4.out.o.nine
          have f2 := HD4.out.o.free 2
          have HD12 := Lib.hid (HD4.out.set 2 (.slice A4 (j + 1) c4'))
          go_wp2_with fail
          go_roundw
          case rel => exact ⟨j + 1, A4, c4', rc, bc, es ++ [(⟨ofL t, decide (x = 1), (d1, d2)⟩ : Ent)], by go_num, hjr, hn4, hm4, HA4.out.setCell (a := ⟨w.heap.size + 1 + 1, 2, none⟩) (Nat.lt_succ_self _) _, HD12.out, HST.out, HLc.out, HFA.out⟩
          case measure => simp [intOf]; omega
      · have hlz : ¬ (j : Int) < (nn : Int) := by omega
        have HX := Lib.hid (rE_end hE.out (.inl (by omega)))
        clear hE hF
        have HP : Hid (pz7 (toL s) = (⟨2, ⟨#[]⟩, es, zD, [], ⟨#[]⟩, 0, ⟨#[]⟩⟩, (rj, bj))) := by show _ = _; rw [HP0.out, HQ3.out]; simp only; rw [HX.out]
        have HOK7 : Hid (∀ e ∈ es, e.nm.size ≤ 1000000 ∧ WfD e.dg) := fun e he => by
          have h1 := (rE_ok nn (r3, bad3)).1
          rw [HX.out] at h1
          have h2 := h1 e he
          have h3 := HLN.out _ HL3.out
          exact ⟨Nat.le_trans h2.1 h3, h2.2⟩
        have HDX := hD
        have hWX : True := trivial
        have c0 := True; have c1 := True; have c2 := True; have c3 := True; have c4 := True; have c5 := True; have c6 := True; have c7 := True; have c8 := True; have y0 := True; have y1 := True; have y2 := True; have y3 := True; have y4 := True; have y5 := True; have y6 := True; have y7 := True; have y8 := True
        clear x0 x1
        have HM : Hid (ObM WX WX.heap.size ⟨2, ⟨#[]⟩, es, zD, [], ⟨#[]⟩, 0, ⟨#[]⟩⟩ ⟨Aj, j, cj, none, 0, 0⟩) := ⟨hA.out.sl, Sl.nil _ _ _ _, hjc, hcm, Nat.le_refl _, Nat.zero_le _⟩
        have HCK := Lib.hid (encodeF7_any ⟨2, ⟨#[]⟩, es, zD, [], ⟨#[]⟩, 0, ⟨#[]⟩⟩ ⟨Aj, j, cj, none, 0, 0⟩ WX.heap.size WX HM.out (Nat.le_refl _) ⟨wf_zD, (fun d h => by cases h), Nat.zero_le _, Nat.zero_le _, Int.le_refl _, by show (0 : Int) ≤ _; omega, fun e he => (HOK7.out e he).1, fun e he => (HOK7.out e he).2⟩)
        obtain ⟨op, hop⟩ : ∃ op : Ob, op = ⟨2, ⟨#[]⟩, es, zD, [], ⟨#[]⟩, 0, ⟨#[]⟩⟩ := ⟨_, rfl⟩
        obtain ⟨osl, hosl⟩ : ∃ osl : Osl, osl = ⟨Aj, j, cj, none, 0, 0⟩ := ⟨_, rfl⟩
        have HOP := Lib.hid hop
        have HOS := Lib.hid hosl
        rw [← hop] at HP
        rw [← hop, ← hosl] at HM
        obtain ⟨bs, hbs⟩ : ∃ bs, ofL (encO op) = bs := ⟨_, rfl⟩
        have HBAD : Hid ((bj = true ∨ ¬ (OkO op ∧ bs = s)) → ∀ o', OkO o' → s ≠ ofL (encO o')) := fun h => by
          rcases h with h | h
          · have hp := HP.out
            rw [h] at hp; exact decE_bad hp
          · rw [← hbs] at h; exact decE_not HP.out h
        unfold En7 at HCK
        rw [← hop, hbs] at HCK
        have HBS := Lib.hid hbs
        obtain ⟨p, hp⟩ : ∃ p, OkO op = p := ⟨_, rfl⟩
        have HPE := Lib.hid hp
        rw [hp] at HBAD HCK
        rw [hop] at HCK
        simp only [obV, obC] at HCK
        clear c0 c1 c2 c3 c4 c5 c6 c7 c8
        obtain ⟨c0, c1, c2, c3, c4, c5, c6, c7, c8⟩ := HDX.out.o.nine
        obtain ⟨x0, x1, _, _⟩ := HDX.out.r.two
        clear hop hosl hbs hp HP0 HP
        go_wp2_with fail
        refine HCK.out.mono ?_
        rintro e w8 ⟨hq, hb8⟩
        have HD8 := Lib.hid (HDX.out.below (hb8.mono HDX.out.lt))
        have HM8 := Lib.hid ((HM.out.below hb8 (Nat.le_refl _)).more hb8.size)
        have HA8 := Lib.hid (hA.out.below hb8)
        clear c0 c1 c2 c3 c4 c5 c6 c7 c8 y0 y1 y2 y3 y4 y5 y6 y7 y8 x0 x1 hb8 HCK hWX HM
        obtain ⟨c0, c1, c2, c3, c4, c5, c6, c7, c8⟩ := HD8.out.o.nine
        obtain ⟨x0, x1, _, _⟩ := HD8.out.r.two
        obtain ⟨d0, d1', d2', d3, d4, d5, d6, d7, d8⟩ := HD8.out.z.nine
        have g0 := HD8.out.z.free 0; have g1 := HD8.out.z.free 1; have g2 := HD8.out.z.free 2; have g3 := HD8.out.z.free 3; have g4 := HD8.out.z.free 4; have g5 := HD8.out.z.free 5; have g6 := HD8.out.z.free 6; have g7 := HD8.out.z.free 7; have g8 := HD8.out.z.free 8
        have hne : w.heap.size ≠ w.heap.size + 1 + 1 := by omega
        rcases hq with ⟨hp, rfl⟩ | ⟨hp, z, hz, rfl⟩
        · cases bj with
          | true =>
            have HB := Lib.hid (HBAD.out (.inl (by trivial)))
            clear hp
            go_wp2_with fail
            refine bodyPost_ret (res_cellOb Tryz.results85 rfl (bk_set9 HD8.out.z _ _ _ _ _ _ _ _ _) rfl) rfl ⟨.inr ⟨HB.out, rfl⟩, below_set9 HD8.out.b (Nat.le_refl _) _ _ _ _ _ _ _ _ _⟩
          | false =>
            have l1 : (bs.toList != s.toList) = !(decide (bs = s)) := by rw [← str_dec]; rfl
            have l2 := str_dec bs s
            by_cases hbe : bs = s
            · rw [decide_eq_true hbe] at l1 l2
              have HOK := Lib.hid hp
              have HBE := Lib.hid hbe
              clear hp hbe
              go_wp2_with fail
              refine bodyPost_ret (res_cellOb Tryz.results85 rfl (bk_set9 HD8.out.z _ _ _ _ _ _ _ _ _) rfl) rfl ⟨.inl ⟨op, osl, by rw [HPE.out]; exact HOK.out, by rw [HBS.out]; exact HBE.out.symm, by rw [HOP.out, HOS.out]; rfl, ?_⟩, below_set9 HD8.out.b (Nat.le_refl _) _ _ _ _ _ _ _ _ _⟩
              rw [HOP.out, HOS.out]
              exact ⟨(HA8.out.set9 (by omega) _ _ _ _ _ _ _ _ _).sl, Sl.nil _ _ _ _, hjc, hcm, Nat.le_refl _, Nat.zero_le _⟩
            · rw [decide_eq_false hbe] at l1 l2
              have HB := Lib.hid (HBAD.out (.inr (fun h => hbe h.2)))
              clear hp hbe
              go_wp2_with fail
              refine bodyPost_ret (res_cellOb Tryz.results85 rfl (bk_set9 HD8.out.z _ _ _ _ _ _ _ _ _) rfl) rfl ⟨.inr ⟨HB.out, rfl⟩, below_set9 HD8.out.b (Nat.le_refl _) _ _ _ _ _ _ _ _ _⟩
        · have HB := Lib.hid (HBAD.out (.inr (fun h => hp h.1)))
          have hzn : (z != 0) = true := by rw [bne_iff_ne]; exact hz
          clear hp hz
          cases bj with
          | true =>
            go_wp2_with fail
            refine bodyPost_ret (res_cellOb Tryz.results85 rfl (bk_set9 HD8.out.z _ _ _ _ _ _ _ _ _) rfl) rfl ⟨.inr ⟨HB.out, rfl⟩, below_set9 HD8.out.b (Nat.le_refl _) _ _ _ _ _ _ _ _ _⟩
          | false =>
            go_wp2_with fail
            refine bodyPost_ret (res_cellOb Tryz.results85 rfl (bk_set9 HD8.out.z _ _ _ _ _ _ _ _ _) rfl) rfl ⟨.inr ⟨HB.out, rfl⟩, below_set9 HD8.out.b (Nat.le_refl _) _ _ _ _ _ _ _ _ _⟩
  by_cases hk3 : k = 3
  · subst hk3
    have HP0 := Lib.hid (pz7_three hq)
    have HC2 : Hid (Calls Tryz.prog 123 #[.pointer (some ⟨w.heap.size + 1, 0, none⟩)] W1 (RzE (.int .i64 3) (w.heap.size + 1) (r2, bad2) W1)) := HC1.out
    clear HC1 hq
    go_enter Tryz.func85, Tryz.ntmps85
    go_wp2_with fail
    rw [HW1.out]
    refine HC2.out.mono ?_
    rintro e v2 ⟨rfl, hr, hg⟩
    have HDv := Lib.hid (HD1.out.read hr hg)
    clear hr hg HC2 HD1 HW1
    obtain ⟨y0, y1, y2, y3, y4, y5, y6, y7, y8⟩ := HDv.out.o.nine
    have f0 := HDv.out.o.free 0
    obtain ⟨W2, hW2⟩ : ∃ W, (v2.setCell ⟨w.heap.size + 1 + 1, 0, none⟩ (.int .i64 3)) = W := ⟨_, rfl⟩
    have HD2 : Hid (DeSt w W2 #[.int .i64 3, .string ⟨#[]⟩, .slice none 0 0, .int .u64 0, .int .u64 0, .slice none 0 0, .string ⟨#[]⟩, .int .i64 0, .string ⟨#[]⟩] r2 bad2) := by rw [← hW2]; exact (HDv.out.set 0 (.int .i64 3))
    clear HDv
    obtain ⟨c0, c1, c2, c3, c4, c5, c6, c7, c8⟩ := HD2.out.o.nine
    obtain ⟨⟨⟨d1, d2⟩, r3, bad3⟩, hq⟩ : ∃ q, rg (r2, bad2) = q := ⟨_, rfl⟩
    have HC := Lib.hid (rdig7_any (w.heap.size + 1) r2 bad2 W2 HD2.out.r (HLN.out _ HL2.out))
    have hl := rg_len (r2, bad2)
    rw [hq] at HC hl
    have HQ3 := Lib.hid hq
    simp only at HC hl
    have HL3 : Hid (r3.length ≤ (toL s).length) := by have := HL2.out; show _ ≤ _; omega
    have HE3 := Lib.hid hl
    clear hq hl
    go_wp2_with fail
    refine HC.out.mono ?_
    rintro e v3 ⟨rfl, hr, hg⟩
    simp only [digV]
    have HDv := Lib.hid (HD2.out.read hr hg)
    clear hr hg HC HD2 hW2 c0 c1 c2 c3 c4 c5 c6 c7 c8 y0 y1 y2 y3 y4 y5 y6 y7 y8
    obtain ⟨y0, y1, y2, y3, y4, y5, y6, y7, y8⟩ := HDv.out.o.nine
    have f3 := HDv.out.o.free 3
    have f4 := HDv.out.o.free 4
    obtain ⟨W3, hW3⟩ : ∃ W, ((v3.setCell ⟨w.heap.size + 1 + 1, 3, none⟩ (.int .u64 d1)).setCell ⟨w.heap.size + 1 + 1, 4, none⟩ (.int .u64 d2)) = W := ⟨_, rfl⟩
    have HD3 : Hid (DeSt w W3 #[.int .i64 3, .string ⟨#[]⟩, .slice none 0 0, .int .u64 d1, .int .u64 d2, .slice none 0 0, .string ⟨#[]⟩, .int .i64 0, .string ⟨#[]⟩] r3 bad3) := by rw [← hW3]; exact ((HDv.out.set 3 (.int .u64 d1)).set 4 (.int .u64 d2))
    clear HDv
    obtain ⟨c0, c1, c2, c3, c4, c5, c6, c7, c8⟩ := HD3.out.o.nine
    obtain ⟨⟨nn, r4, bad4⟩, hq⟩ : ∃ q, rn (r3, bad3) = q := ⟨_, rfl⟩
    have HC := Lib.hid (rnum7_any (w.heap.size + 1) r3 bad3 W3 HD3.out.r (HLN.out _ HL3.out))
    have hl := rn_len (r3, bad3)
    rw [hq] at HC hl
    have HQ4 := Lib.hid hq
    simp only at HC hl
    have HL4 : Hid (r4.length ≤ (toL s).length) := by have := HL3.out; show _ ≤ _; omega
    have HE4 := Lib.hid hl
    clear hq hl
    go_wp2_with fail
    refine HC.out.mono ?_
    rintro e W4 ⟨rfl, hr, hg⟩
    have HD4 := Lib.hid (HD3.out.read hr hg)
    clear hr hg HC HD3 hW3 c0 c1 c2 c3 c4 c5 c6 c7 c8 y0 y1 y2 y3 y4 y5 y6 y7 y8
    obtain ⟨i0, hi, hz0, hz1, hz2⟩ := info_parts infoDg
    have Hi := Lib.hid hi; have Hz0 := Lib.hid hz0; have Hz1 := Lib.hid hz1; have Hz2 := Lib.hid hz2
    clear hi hz0 hz1 hz2
    have hsl := HS.out
    go_wp2_with fail
    go_loopw [10] (fun i wr => ∃ (j : Nat) (Aj : Option Addr) (cj : Nat) (rj : Bytes) (bj : Bool) (es : List Dig), i = .int .i64 (j : Int) ∧ j ≤ 1000001 ∧ j ≤ cj ∧ cj ≤ maxLen ∧ Hid (Apd wr (w.heap.size + 1 + 1 + 1) 30 2 Aj j cj (flat dgC es)) ∧ Hid (DeSt w wr #[.int .i64 3, .string ⟨#[]⟩, .slice none 0 0, .int .u64 d1, .int .u64 d2, .slice Aj j cj, .string ⟨#[]⟩, .int .i64 0, .string ⟨#[]⟩] rj bj) ∧ Hid (rD nn (r4, bad4) = (es ++ (rD (nn - j) (rj, bj)).1, (rD (nn - j) (rj, bj)).2)) ∧ Hid (rj.length ≤ r4.length) ∧ Hid (Far j rj bj r4.length)) (fun i _ => nn - (intOf i).toNat)
    case atStart => exact ⟨0, none, 0, r4, bad4, [], rfl, Nat.zero_le _, Nat.le_refl _, Nat.zero_le _, .inr ⟨rfl, rfl, rfl⟩, HD4.out, by show _ = _; simp, Nat.le_refl _, fun _ => by omega⟩
    case round =>
      obtain ⟨j, Aj, cj, rj, bj, es, rfl, hj, hjc, hcm, hA, hD, hE, hrl, hF⟩ := hrel
      obtain ⟨WX, hwx⟩ : ∃ wo, wo = wr := ⟨_, rfl⟩
      subst hwx
      clear HD4
      have HLj : Hid (rj.length ≤ (toL s).length) := by have := hrl.out; have := HL4.out; show _ ≤ _; omega
      obtain ⟨x0, x1, _, _⟩ := hD.out.r.two
      have zX := hD.out.lt
      by_cases hlt : j < nn
      · have hlz : (j : Int) < (nn : Int) := by omega
        cases bj with
        | true =>
          have HX := Lib.hid (rD_end hE.out (.inr rfl))
          clear hE hF
          have HPW : Hid (∀ d ∈ es, WfD d) := fun e he => by
            have h1 := (rD_ok nn (r4, bad4)).1
            rw [HX.out] at h1
            exact h1 e he
          have HDX := hD
          have HAX := hA
          clear hD hA
          obtain ⟨⟨ta, r6, bad6⟩, hq⟩ : ∃ q, rt (rj, true) = q := ⟨_, rfl⟩
          have HC := Lib.hid (rtxt7_any (w.heap.size + 1) rj true WX HDX.out.r (HLN.out _ HLj.out))
          have hl := rt_len (rj, true)
          rw [hq] at HC hl
          have HQ6 := Lib.hid hq
          simp only at HC hl
          have HL6 : Hid (r6.length ≤ (toL s).length) := by have := HLj.out; show _ ≤ _; omega
          have HE6 := Lib.hid hl
          clear hq hl
          go_wp2_with fail
          refine HC.out.mono ?_
          rintro e v6 ⟨rfl, hr, hg⟩
          have HDv := Lib.hid (HDX.out.read hr hg)
          have HAv := Lib.hid (HAX.out.gb hg (by omega))
          clear hr hg HC HDX HAX x0 x1
          obtain ⟨y0, y1, y2, y3, y4, y5, y6, y7, y8⟩ := HDv.out.o.nine
          have f6 := HDv.out.o.free 6
          obtain ⟨W6, hW6⟩ : ∃ W, (v6.setCell ⟨w.heap.size + 1 + 1, 6, none⟩ (.string (ofL ta))) = W := ⟨_, rfl⟩
          have HD6 : Hid (DeSt w W6 #[.int .i64 3, .string ⟨#[]⟩, .slice none 0 0, .int .u64 d1, .int .u64 d2, .slice Aj j cj, .string (ofL ta), .int .i64 0, .string ⟨#[]⟩] r6 bad6) := by rw [← hW6]; exact (HDv.out.set 6 (.string (ofL ta)))
          clear HDv
          obtain ⟨c0, c1, c2, c3, c4, c5, c6, c7, c8⟩ := HD6.out.o.nine
          have HA6 := Lib.hid (HAv.out.setCell (a := ⟨w.heap.size + 1 + 1, 6, none⟩) (Nat.lt_succ_self _) (.string (ofL ta)))
          rw [hW6] at HA6
          clear HAv
          obtain ⟨⟨ti, r7, bad7⟩, hq⟩ : ∃ q, rn (r6, bad6) = q := ⟨_, rfl⟩
          have HC := Lib.hid (rnum7_any (w.heap.size + 1) r6 bad6 W6 HD6.out.r (HLN.out _ HL6.out))
          have hl := rn_len (r6, bad6)
          rw [hq] at HC hl
          have HQ7 := Lib.hid hq
          simp only at HC hl
          have HL7 : Hid (r7.length ≤ (toL s).length) := by have := HL6.out; show _ ≤ _; omega
          have HE7 := Lib.hid hl
          clear hq hl
          go_wp2_with fail
          refine HC.out.mono ?_
          rintro e v7 ⟨rfl, hr, hg⟩
          have HDv := Lib.hid (HD6.out.read hr hg)
          have HAv := Lib.hid (HA6.out.gb hg (by omega))
          clear hr hg HC HD6 HA6 hW6 c0 c1 c2 c3 c4 c5 c6 c7 c8 y0 y1 y2 y3 y4 y5 y6 y7 y8
          obtain ⟨y0, y1, y2, y3, y4, y5, y6, y7, y8⟩ := HDv.out.o.nine
          have f7 := HDv.out.o.free 7
          obtain ⟨W7, hW7⟩ : ∃ W, (v7.setCell ⟨w.heap.size + 1 + 1, 7, none⟩ (.int .i64 (ti : Int))) = W := ⟨_, rfl⟩
          have HD7 : Hid (DeSt w W7 #[.int .i64 3, .string ⟨#[]⟩, .slice none 0 0, .int .u64 d1, .int .u64 d2, .slice Aj j cj, .string (ofL ta), .int .i64 (ti : Int), .string ⟨#[]⟩] r7 bad7) := by rw [← hW7]; exact (HDv.out.set 7 (.int .i64 (ti : Int)))
          clear HDv
          obtain ⟨c0, c1, c2, c3, c4, c5, c6, c7, c8⟩ := HD7.out.o.nine
          have HA7 := Lib.hid (HAv.out.setCell (a := ⟨w.heap.size + 1 + 1, 7, none⟩) (Nat.lt_succ_self _) (.int .i64 (ti : Int)))
          rw [hW7] at HA7
          clear HAv
          obtain ⟨⟨tm, r8, bad8⟩, hq⟩ : ∃ q, rt (r7, bad7) = q := ⟨_, rfl⟩
          have HC := Lib.hid (rtxt7_any (w.heap.size + 1) r7 bad7 W7 HD7.out.r (HLN.out _ HL7.out))
          have hl := rt_len (r7, bad7)
          rw [hq] at HC hl
          have HQ8 := Lib.hid hq
          simp only at HC hl
          have HL8 : Hid (r8.length ≤ (toL s).length) := by have := HL7.out; show _ ≤ _; omega
          have HE8 := Lib.hid hl
          clear hq hl
          go_wp2_with fail
          refine HC.out.mono ?_
          rintro e v8 ⟨rfl, hr, hg⟩
          have HDv := Lib.hid (HD7.out.read hr hg)
          have HAv := Lib.hid (HA7.out.gb hg (by omega))
          clear hr hg HC HD7 HA7 hW7 c0 c1 c2 c3 c4 c5 c6 c7 c8 y0 y1 y2 y3 y4 y5 y6 y7 y8
          obtain ⟨y0, y1, y2, y3, y4, y5, y6, y7, y8⟩ := HDv.out.o.nine
          have f8 := HDv.out.o.free 8
          obtain ⟨W8, hW8⟩ : ∃ W, (v8.setCell ⟨w.heap.size + 1 + 1, 8, none⟩ (.string (ofL tm))) = W := ⟨_, rfl⟩
          have HD8 : Hid (DeSt w W8 #[.int .i64 3, .string ⟨#[]⟩, .slice none 0 0, .int .u64 d1, .int .u64 d2, .slice Aj j cj, .string (ofL ta), .int .i64 (ti : Int), .string (ofL tm)] r8 bad8) := by rw [← hW8]; exact (HDv.out.set 8 (.string (ofL tm)))
          clear HDv
          obtain ⟨c0, c1, c2, c3, c4, c5, c6, c7, c8⟩ := HD8.out.o.nine
          have HA8 := Lib.hid (HAv.out.setCell (a := ⟨w.heap.size + 1 + 1, 8, none⟩) (Nat.lt_succ_self _) (.string (ofL tm)))
          rw [hW8] at HA8
          clear HAv
          have HP : Hid (pz7 (toL s) = (⟨3, ⟨#[]⟩, [], (d1, d2), es, ofL ta, (ti : Int), ofL tm⟩, (r8, bad8))) := by
            show _ = _
            rw [HP0.out]
            simp only [HQ3.out, HQ4.out, HX.out, HQ6.out, HQ7.out, HQ8.out]
          have hla : (ofL ta).size ≤ 1000000 := by have h1 := HE6.out.2; have h2 := HLN.out _ HLj.out; rw [size_ofL]; omega
          have hlm : (ofL tm).size ≤ 1000000 := by have h1 := HE8.out.2; have h2 := HLN.out _ HL7.out; rw [size_ofL]; omega
          have hlt0 : ti ≤ 1099511627776 := HE7.out.2
          have HWD : Hid (WfD (d1, d2)) := HE3.out.2
          have HM : Hid (ObM W8 W8.heap.size ⟨3, ⟨#[]⟩, [], (d1, d2), es, ofL ta, (ti : Int), ofL tm⟩ ⟨none, 0, 0, Aj, j, cj⟩) := ⟨Sl.nil _ _ _ _, HA8.out.sl, Nat.le_refl _, Nat.zero_le _, hjc, hcm⟩
          have HCK := Lib.hid (encodeF7_any ⟨3, ⟨#[]⟩, [], (d1, d2), es, ofL ta, (ti : Int), ofL tm⟩ ⟨none, 0, 0, Aj, j, cj⟩ W8.heap.size W8 HM.out (Nat.le_refl _) ⟨HWD.out, HPW.out, hla, hlm, by show (0 : Int) ≤ (ti : Int); omega, by show (ti : Int) ≤ _; omega, (fun e h => by cases h), (fun e h => by cases h)⟩)
          obtain ⟨op, hop⟩ : ∃ op : Ob, op = ⟨3, ⟨#[]⟩, [], (d1, d2), es, ofL ta, (ti : Int), ofL tm⟩ := ⟨_, rfl⟩
          obtain ⟨osl, hosl⟩ : ∃ osl : Osl, osl = ⟨none, 0, 0, Aj, j, cj⟩ := ⟨_, rfl⟩
          have HOP := Lib.hid hop
          have HOS := Lib.hid hosl
          rw [← hop] at HP
          rw [← hop, ← hosl] at HM
          obtain ⟨bs, hbs⟩ : ∃ bs, ofL (encO op) = bs := ⟨_, rfl⟩
          have HBAD : Hid ((bad8 = true ∨ ¬ (OkO op ∧ bs = s)) → ∀ o', OkO o' → s ≠ ofL (encO o')) := fun h => by
            rcases h with h | h
            · have hp := HP.out
              rw [h] at hp; exact decE_bad hp
            · rw [← hbs] at h; exact decE_not HP.out h
          unfold En7 at HCK
          rw [← hop, hbs] at HCK
          have HBS := Lib.hid hbs
          obtain ⟨p, hp⟩ : ∃ p, OkO op = p := ⟨_, rfl⟩
          have HPE := Lib.hid hp
          rw [hp] at HBAD HCK
          rw [hop] at HCK
          simp only [obV, obC] at HCK
          clear c0 c1 c2 c3 c4 c5 c6 c7 c8
          obtain ⟨c0, c1, c2, c3, c4, c5, c6, c7, c8⟩ := HD8.out.o.nine
          obtain ⟨x0, x1, _, _⟩ := HD8.out.r.two
          clear hop hosl hbs hp HP0 HP
          go_wp2_with fail
          refine HCK.out.mono ?_
          rintro e w8 ⟨hq, hb8⟩
          have HD9 := Lib.hid (HD8.out.below (hb8.mono HD8.out.lt))
          have HM8 := Lib.hid ((HM.out.below hb8 (Nat.le_refl _)).more hb8.size)
          have HA9 := Lib.hid (HA8.out.below hb8)
          clear c0 c1 c2 c3 c4 c5 c6 c7 c8 y0 y1 y2 y3 y4 y5 y6 y7 y8 x0 x1 hb8 HCK hW8 HM
          obtain ⟨c0, c1, c2, c3, c4, c5, c6, c7, c8⟩ := HD9.out.o.nine
          obtain ⟨x0, x1, _, _⟩ := HD9.out.r.two
          obtain ⟨d0, d1', d2', d3, d4, d5, d6, d7, d8⟩ := HD9.out.z.nine
          have g0 := HD9.out.z.free 0; have g1 := HD9.out.z.free 1; have g2 := HD9.out.z.free 2; have g3 := HD9.out.z.free 3; have g4 := HD9.out.z.free 4; have g5 := HD9.out.z.free 5; have g6 := HD9.out.z.free 6; have g7 := HD9.out.z.free 7; have g8 := HD9.out.z.free 8
          have hne : w.heap.size ≠ w.heap.size + 1 + 1 := by omega
          rcases hq with ⟨hp, rfl⟩ | ⟨hp, z, hz, rfl⟩
          · cases bad8 with
            | true =>
              have HB := Lib.hid (HBAD.out (.inl (by trivial)))
              clear hp
              go_wp2_with fail
              refine bodyPost_ret (res_cellOb Tryz.results85 rfl (bk_set9 HD9.out.z _ _ _ _ _ _ _ _ _) rfl) rfl ⟨.inr ⟨HB.out, rfl⟩, below_set9 HD9.out.b (Nat.le_refl _) _ _ _ _ _ _ _ _ _⟩
            | false =>
              have l1 : (bs.toList != s.toList) = !(decide (bs = s)) := by rw [← str_dec]; rfl
              have l2 := str_dec bs s
              by_cases hbe : bs = s
              · rw [decide_eq_true hbe] at l1 l2
                have HOK := Lib.hid hp
                have HBE := Lib.hid hbe
                clear hp hbe
                go_wp2_with fail
                refine bodyPost_ret (res_cellOb Tryz.results85 rfl (bk_set9 HD9.out.z _ _ _ _ _ _ _ _ _) rfl) rfl ⟨.inl ⟨op, osl, by rw [HPE.out]; exact HOK.out, by rw [HBS.out]; exact HBE.out.symm, by rw [HOP.out, HOS.out]; rfl, ?_⟩, below_set9 HD9.out.b (Nat.le_refl _) _ _ _ _ _ _ _ _ _⟩
                rw [HOP.out, HOS.out]
                exact ⟨Sl.nil _ _ _ _, (HA9.out.set9 (by omega) _ _ _ _ _ _ _ _ _).sl, Nat.le_refl _, Nat.zero_le _, hjc, hcm⟩
              · rw [decide_eq_false hbe] at l1 l2
                have HB := Lib.hid (HBAD.out (.inr (fun h => hbe h.2)))
                clear hp hbe
                go_wp2_with fail
                refine bodyPost_ret (res_cellOb Tryz.results85 rfl (bk_set9 HD9.out.z _ _ _ _ _ _ _ _ _) rfl) rfl ⟨.inr ⟨HB.out, rfl⟩, below_set9 HD9.out.b (Nat.le_refl _) _ _ _ _ _ _ _ _ _⟩
          · have HB := Lib.hid (HBAD.out (.inr (fun h => hp h.1)))
            have hzn : (z != 0) = true := by rw [bne_iff_ne]; exact hz
            clear hp hz
            cases bad8 with
            | true =>
              go_wp2_with fail
              refine bodyPost_ret (res_cellOb Tryz.results85 rfl (bk_set9 HD9.out.z _ _ _ _ _ _ _ _ _) rfl) rfl ⟨.inr ⟨HB.out, rfl⟩, below_set9 HD9.out.b (Nat.le_refl _) _ _ _ _ _ _ _ _ _⟩
            | false =>
              go_wp2_with fail
              refine bodyPost_ret (res_cellOb Tryz.results85 rfl (bk_set9 HD9.out.z _ _ _ _ _ _ _ _ _) rfl) rfl ⟨.inr ⟨HB.out, rfl⟩, below_set9 HD9.out.b (Nat.le_refl _) _ _ _ _ _ _ _ _ _⟩
        | false =>
          have hjr : j + 1 ≤ 1000001 := by have h1 := hF.out rfl; have h2 := HLN.out _ HL4.out; omega
          obtain ⟨⟨⟨p1, p2⟩, rc, bc⟩, hqc⟩ : ∃ q, rg (rj, false) = q := ⟨_, rfl⟩
          have hlc := rg_len (rj, false)
          rw [hqc] at hlc
          simp only at hlc
          have HST := Lib.hid (rD_step hE.out hlt hqc)
          have HFA : Hid (Far (j + 1) rc bc r4.length) := hF.out.step rfl hqc (Nat.le_refl _)
          have HLc : Hid (rc.length ≤ r4.length) := by show _ ≤ _; have := hrl.out; omega
          have HC := Lib.hid (rdig7_any (w.heap.size + 1) rj false WX.drew hD.out.r (HLN.out _ HLj.out))
          rw [hqc] at HC
          simp only [digV] at HC
          obtain ⟨c0, c1, c2, c3, c4, c5, c6, c7, c8⟩ := hD.out.o.nine
          have HJ1 : Hid (j + 1 ≤ maxLen) := by show _ ≤ _; unfold maxLen; omega
          have HJ2 : Hid ((j + 1) * 16 ≤ 140737488355328) := by show _ ≤ _; omega
          have HON : Hid (∀ u ∈ dgC (p1, p2), u.oneCell' = true) := by intro u hu; simp [dgC] at hu; rcases hu with rfl | rfl <;> rfl
          clear hqc hlc hE hF hrl
          go_wp2_with fail
          go_region_law
            (first
              | (go_simp; go_at_call 125; refine HC.out.mono ?_; rintro e w2 ⟨rfl, hr2, hg2'⟩
                 have hg2 := (Gb.of_below (p := fun g => g = w.heap.size + 1) ((Below.refl WX.heap.size WX).drew)).trans hg2'
                 have HD2 := Lib.hid (hD.out.read hr2 hg2); have HA2 := Lib.hid (hA.out.gb hg2 (by omega)); have y5 := HD2.out.o.nine.2.2.2.2.2.1; have y5a := (HD2.out.o.alloc (.cells #[.int .u64 p1, .int .u64 p2] 30)).nine.2.2.2.2.2.1; have z2 : WX.heap.size ≤ w2.heap.size := hg2.size
                 clear hr2 hg2 hg2')
              | (refine step_append_apd (by rfl) (.tmp 78) (.tmp 81) 80 (by rfl) (w.heap.size + 1 + 1 + 1) 30 i0 _ 2 16 Tryz.underlying80 Hi.out Hz0.out Hz1.out Hz2.out rfl (by decide) Aj j cj (flat dgC es) (by rfl) (HA2.out.below ((Below.refl _ _).alloc (Nat.le_refl _) _)) _ (some ⟨w2.heap.size, 0, none⟩) 1 1 (dgC (p1, p2)) (by rfl) (Sl.of_bk (n := 1) (size := 2) (Bk.new w2 30 #[.int .u64 p1, .int .u64 p2]) rfl) HON.out HJ1.out HJ2.out (Nat.le_trans HD2.out.lt (Nat.le_of_lt (by simp))) ?_
                 intro A4 c4' w4 ha4 hb4 hn4 hm4
                 have HA4 := Lib.hid ha4
                 have HB4 : Hid (Below (w.heap.size + 3) w2 w4) := ((Below.refl (w.heap.size + 3) w2).alloc (by omega) _).trans hb4
                 have HD4 := Lib.hid (HD2.out.below HB4.out)
                 have y5 := HD4.out.o.nine.2.2.2.2.2.1
                 have f5 := HD4.out.o.free 5
                 clear ha4 hb4))
          all_goals
            have HA5 : Hid (Apd w4 (w.heap.size + 1 + 1 + 1) 30 2 A4 (j + 1) c4' (flat dgC (es ++ [((p1, p2) : Dig)]))) := by
              show Apd _ _ _ _ _ _ _ _
              rw [flat_append]; simpa [flat] using HA4.out
            have HD5 := Lib.hid (HD4.out.set 5 (.slice A4 (j + 1) c4'))
            clear c0 c1 c2 c3 c4 c5 c6 c7 c8
            go_wp2_with fail
            go_roundw
            case rel => exact ⟨j + 1, A4, c4', rc, bc, es ++ [((p1, p2) : Dig)], by go_num, hjr, hn4, hm4, HA5.out.setCell (a := ⟨w.heap.size + 1 + 1, 5, none⟩) (Nat.lt_succ_self _) _, HD5.out, HST.out, HLc.out, HFA.out⟩
            case measure => simp [intOf]; omega
      · have hlz : ¬ (j : Int) < (nn : Int) := by omega
        have HX := Lib.hid (rD_end hE.out (.inl (by omega)))
        clear hE hF
        have HPW : Hid (∀ d ∈ es, WfD d) := fun e he => by
          have h1 := (rD_ok nn (r4, bad4)).1
          rw [HX.out] at h1
          exact h1 e he
        have HDX := hD
        have HAX := hA
        clear hD hA
        obtain ⟨⟨ta, r6, bad6⟩, hq⟩ : ∃ q, rt (rj, bj) = q := ⟨_, rfl⟩
        have HC := Lib.hid (rtxt7_any (w.heap.size + 1) rj bj WX HDX.out.r (HLN.out _ HLj.out))
        have hl := rt_len (rj, bj)
        rw [hq] at HC hl
        have HQ6 := Lib.hid hq
        simp only at HC hl
        have HL6 : Hid (r6.length ≤ (toL s).length) := by have := HLj.out; show _ ≤ _; omega
        have HE6 := Lib.hid hl
        clear hq hl
        go_wp2_with fail
        refine HC.out.mono ?_
        rintro e v6 ⟨rfl, hr, hg⟩
        have HDv := Lib.hid (HDX.out.read hr hg)
        have HAv := Lib.hid (HAX.out.gb hg (by omega))
        clear hr hg HC HDX HAX x0 x1
        obtain ⟨y0, y1, y2, y3, y4, y5, y6, y7, y8⟩ := HDv.out.o.nine
        have f6 := HDv.out.o.free 6
        obtain ⟨W6, hW6⟩ : ∃ W, (v6.setCell ⟨w.heap.size + 1 + 1, 6, none⟩ (.string (ofL ta))) = W := ⟨_, rfl⟩
        have HD6 : Hid (DeSt w W6 #[.int .i64 3, .string ⟨#[]⟩, .slice none 0 0, .int .u64 d1, .int .u64 d2, .slice Aj j cj, .string (ofL ta), .int .i64 0, .string ⟨#[]⟩] r6 bad6) := by rw [← hW6]; exact (HDv.out.set 6 (.string (ofL ta)))
        clear HDv
        obtain ⟨c0, c1, c2, c3, c4, c5, c6, c7, c8⟩ := HD6.out.o.nine
        have HA6 := Lib.hid (HAv.out.setCell (a := ⟨w.heap.size + 1 + 1, 6, none⟩) (Nat.lt_succ_self _) (.string (ofL ta)))
        rw [hW6] at HA6
        clear HAv
        obtain ⟨⟨ti, r7, bad7⟩, hq⟩ : ∃ q, rn (r6, bad6) = q := ⟨_, rfl⟩
        have HC := Lib.hid (rnum7_any (w.heap.size + 1) r6 bad6 W6 HD6.out.r (HLN.out _ HL6.out))
        have hl := rn_len (r6, bad6)
        rw [hq] at HC hl
        have HQ7 := Lib.hid hq
        simp only at HC hl
        have HL7 : Hid (r7.length ≤ (toL s).length) := by have := HL6.out; show _ ≤ _; omega
        have HE7 := Lib.hid hl
        clear hq hl
        go_wp2_with fail
        refine HC.out.mono ?_
        rintro e v7 ⟨rfl, hr, hg⟩
        have HDv := Lib.hid (HD6.out.read hr hg)
        have HAv := Lib.hid (HA6.out.gb hg (by omega))
        clear hr hg HC HD6 HA6 hW6 c0 c1 c2 c3 c4 c5 c6 c7 c8 y0 y1 y2 y3 y4 y5 y6 y7 y8
        obtain ⟨y0, y1, y2, y3, y4, y5, y6, y7, y8⟩ := HDv.out.o.nine
        have f7 := HDv.out.o.free 7
        obtain ⟨W7, hW7⟩ : ∃ W, (v7.setCell ⟨w.heap.size + 1 + 1, 7, none⟩ (.int .i64 (ti : Int))) = W := ⟨_, rfl⟩
        have HD7 : Hid (DeSt w W7 #[.int .i64 3, .string ⟨#[]⟩, .slice none 0 0, .int .u64 d1, .int .u64 d2, .slice Aj j cj, .string (ofL ta), .int .i64 (ti : Int), .string ⟨#[]⟩] r7 bad7) := by rw [← hW7]; exact (HDv.out.set 7 (.int .i64 (ti : Int)))
        clear HDv
        obtain ⟨c0, c1, c2, c3, c4, c5, c6, c7, c8⟩ := HD7.out.o.nine
        have HA7 := Lib.hid (HAv.out.setCell (a := ⟨w.heap.size + 1 + 1, 7, none⟩) (Nat.lt_succ_self _) (.int .i64 (ti : Int)))
        rw [hW7] at HA7
        clear HAv
        obtain ⟨⟨tm, r8, bad8⟩, hq⟩ : ∃ q, rt (r7, bad7) = q := ⟨_, rfl⟩
        have HC := Lib.hid (rtxt7_any (w.heap.size + 1) r7 bad7 W7 HD7.out.r (HLN.out _ HL7.out))
        have hl := rt_len (r7, bad7)
        rw [hq] at HC hl
        have HQ8 := Lib.hid hq
        simp only at HC hl
        have HL8 : Hid (r8.length ≤ (toL s).length) := by have := HL7.out; show _ ≤ _; omega
        have HE8 := Lib.hid hl
        clear hq hl
        go_wp2_with fail
        refine HC.out.mono ?_
        rintro e v8 ⟨rfl, hr, hg⟩
        have HDv := Lib.hid (HD7.out.read hr hg)
        have HAv := Lib.hid (HA7.out.gb hg (by omega))
        clear hr hg HC HD7 HA7 hW7 c0 c1 c2 c3 c4 c5 c6 c7 c8 y0 y1 y2 y3 y4 y5 y6 y7 y8
        obtain ⟨y0, y1, y2, y3, y4, y5, y6, y7, y8⟩ := HDv.out.o.nine
        have f8 := HDv.out.o.free 8
        obtain ⟨W8, hW8⟩ : ∃ W, (v8.setCell ⟨w.heap.size + 1 + 1, 8, none⟩ (.string (ofL tm))) = W := ⟨_, rfl⟩
        have HD8 : Hid (DeSt w W8 #[.int .i64 3, .string ⟨#[]⟩, .slice none 0 0, .int .u64 d1, .int .u64 d2, .slice Aj j cj, .string (ofL ta), .int .i64 (ti : Int), .string (ofL tm)] r8 bad8) := by rw [← hW8]; exact (HDv.out.set 8 (.string (ofL tm)))
        clear HDv
        obtain ⟨c0, c1, c2, c3, c4, c5, c6, c7, c8⟩ := HD8.out.o.nine
        have HA8 := Lib.hid (HAv.out.setCell (a := ⟨w.heap.size + 1 + 1, 8, none⟩) (Nat.lt_succ_self _) (.string (ofL tm)))
        rw [hW8] at HA8
        clear HAv
        have HP : Hid (pz7 (toL s) = (⟨3, ⟨#[]⟩, [], (d1, d2), es, ofL ta, (ti : Int), ofL tm⟩, (r8, bad8))) := by
          show _ = _
          rw [HP0.out]
          simp only [HQ3.out, HQ4.out, HX.out, HQ6.out, HQ7.out, HQ8.out]
        have hla : (ofL ta).size ≤ 1000000 := by have h1 := HE6.out.2; have h2 := HLN.out _ HLj.out; rw [size_ofL]; omega
        have hlm : (ofL tm).size ≤ 1000000 := by have h1 := HE8.out.2; have h2 := HLN.out _ HL7.out; rw [size_ofL]; omega
        have hlt0 : ti ≤ 1099511627776 := HE7.out.2
        have HWD : Hid (WfD (d1, d2)) := HE3.out.2
        have HM : Hid (ObM W8 W8.heap.size ⟨3, ⟨#[]⟩, [], (d1, d2), es, ofL ta, (ti : Int), ofL tm⟩ ⟨none, 0, 0, Aj, j, cj⟩) := ⟨Sl.nil _ _ _ _, HA8.out.sl, Nat.le_refl _, Nat.zero_le _, hjc, hcm⟩
        have HCK := Lib.hid (encodeF7_any ⟨3, ⟨#[]⟩, [], (d1, d2), es, ofL ta, (ti : Int), ofL tm⟩ ⟨none, 0, 0, Aj, j, cj⟩ W8.heap.size W8 HM.out (Nat.le_refl _) ⟨HWD.out, HPW.out, hla, hlm, by show (0 : Int) ≤ (ti : Int); omega, by show (ti : Int) ≤ _; omega, (fun e h => by cases h), (fun e h => by cases h)⟩)
        obtain ⟨op, hop⟩ : ∃ op : Ob, op = ⟨3, ⟨#[]⟩, [], (d1, d2), es, ofL ta, (ti : Int), ofL tm⟩ := ⟨_, rfl⟩
        obtain ⟨osl, hosl⟩ : ∃ osl : Osl, osl = ⟨none, 0, 0, Aj, j, cj⟩ := ⟨_, rfl⟩
        have HOP := Lib.hid hop
        have HOS := Lib.hid hosl
        rw [← hop] at HP
        rw [← hop, ← hosl] at HM
        obtain ⟨bs, hbs⟩ : ∃ bs, ofL (encO op) = bs := ⟨_, rfl⟩
        have HBAD : Hid ((bad8 = true ∨ ¬ (OkO op ∧ bs = s)) → ∀ o', OkO o' → s ≠ ofL (encO o')) := fun h => by
          rcases h with h | h
          · have hp := HP.out
            rw [h] at hp; exact decE_bad hp
          · rw [← hbs] at h; exact decE_not HP.out h
        unfold En7 at HCK
        rw [← hop, hbs] at HCK
        have HBS := Lib.hid hbs
        obtain ⟨p, hp⟩ : ∃ p, OkO op = p := ⟨_, rfl⟩
        have HPE := Lib.hid hp
        rw [hp] at HBAD HCK
        rw [hop] at HCK
        simp only [obV, obC] at HCK
        clear c0 c1 c2 c3 c4 c5 c6 c7 c8
        obtain ⟨c0, c1, c2, c3, c4, c5, c6, c7, c8⟩ := HD8.out.o.nine
        obtain ⟨x0, x1, _, _⟩ := HD8.out.r.two
        clear hop hosl hbs hp HP0 HP
        go_wp2_with fail
        refine HCK.out.mono ?_
        rintro e w8 ⟨hq, hb8⟩
        have HD9 := Lib.hid (HD8.out.below (hb8.mono HD8.out.lt))
        have HM8 := Lib.hid ((HM.out.below hb8 (Nat.le_refl _)).more hb8.size)
        have HA9 := Lib.hid (HA8.out.below hb8)
        clear c0 c1 c2 c3 c4 c5 c6 c7 c8 y0 y1 y2 y3 y4 y5 y6 y7 y8 x0 x1 hb8 HCK hW8 HM
        obtain ⟨c0, c1, c2, c3, c4, c5, c6, c7, c8⟩ := HD9.out.o.nine
        obtain ⟨x0, x1, _, _⟩ := HD9.out.r.two
        obtain ⟨d0, d1', d2', d3, d4, d5, d6, d7, d8⟩ := HD9.out.z.nine
        have g0 := HD9.out.z.free 0; have g1 := HD9.out.z.free 1; have g2 := HD9.out.z.free 2; have g3 := HD9.out.z.free 3; have g4 := HD9.out.z.free 4; have g5 := HD9.out.z.free 5; have g6 := HD9.out.z.free 6; have g7 := HD9.out.z.free 7; have g8 := HD9.out.z.free 8
        have hne : w.heap.size ≠ w.heap.size + 1 + 1 := by omega
        rcases hq with ⟨hp, rfl⟩ | ⟨hp, z, hz, rfl⟩
        · cases bad8 with
          | true =>
            have HB := Lib.hid (HBAD.out (.inl (by trivial)))
            clear hp
            go_wp2_with fail
            refine bodyPost_ret (res_cellOb Tryz.results85 rfl (bk_set9 HD9.out.z _ _ _ _ _ _ _ _ _) rfl) rfl ⟨.inr ⟨HB.out, rfl⟩, below_set9 HD9.out.b (Nat.le_refl _) _ _ _ _ _ _ _ _ _⟩
          | false =>
            have l1 : (bs.toList != s.toList) = !(decide (bs = s)) := by rw [← str_dec]; rfl
            have l2 := str_dec bs s
            by_cases hbe : bs = s
            · rw [decide_eq_true hbe] at l1 l2
              have HOK := Lib.hid hp
              have HBE := Lib.hid hbe
              clear hp hbe
              go_wp2_with fail
              refine bodyPost_ret (res_cellOb Tryz.results85 rfl (bk_set9 HD9.out.z _ _ _ _ _ _ _ _ _) rfl) rfl ⟨.inl ⟨op, osl, by rw [HPE.out]; exact HOK.out, by rw [HBS.out]; exact HBE.out.symm, by rw [HOP.out, HOS.out]; rfl, ?_⟩, below_set9 HD9.out.b (Nat.le_refl _) _ _ _ _ _ _ _ _ _⟩
              rw [HOP.out, HOS.out]
              exact ⟨Sl.nil _ _ _ _, (HA9.out.set9 (by omega) _ _ _ _ _ _ _ _ _).sl, Nat.le_refl _, Nat.zero_le _, hjc, hcm⟩
            · rw [decide_eq_false hbe] at l1 l2
              have HB := Lib.hid (HBAD.out (.inr (fun h => hbe h.2)))
              clear hp hbe
              go_wp2_with fail
              refine bodyPost_ret (res_cellOb Tryz.results85 rfl (bk_set9 HD9.out.z _ _ _ _ _ _ _ _ _) rfl) rfl ⟨.inr ⟨HB.out, rfl⟩, below_set9 HD9.out.b (Nat.le_refl _) _ _ _ _ _ _ _ _ _⟩
        · have HB := Lib.hid (HBAD.out (.inr (fun h => hp h.1)))
          have hzn : (z != 0) = true := by rw [bne_iff_ne]; exact hz
          clear hp hz
          cases bad8 with
          | true =>
            go_wp2_with fail
            refine bodyPost_ret (res_cellOb Tryz.results85 rfl (bk_set9 HD9.out.z _ _ _ _ _ _ _ _ _) rfl) rfl ⟨.inr ⟨HB.out, rfl⟩, below_set9 HD9.out.b (Nat.le_refl _) _ _ _ _ _ _ _ _ _⟩
          | false =>
            go_wp2_with fail
            refine bodyPost_ret (res_cellOb Tryz.results85 rfl (bk_set9 HD9.out.z _ _ _ _ _ _ _ _ _) rfl) rfl ⟨.inr ⟨HB.out, rfl⟩, below_set9 HD9.out.b (Nat.le_refl _) _ _ _ _ _ _ _ _ _⟩
  · have HP0 := Lib.hid (pz7_other hq hk2 hk3)
    have hkz2 : ((k : Int) == 2) = false := by rw [beq_eq_false_iff_ne]; omega
    have hkz3 : ((k : Int) == 3) = false := by rw [beq_eq_false_iff_ne]; omega
    have HC2 : Hid (Calls Tryz.prog 123 #[.pointer (some ⟨w.heap.size + 1, 0, none⟩)] W1 (RzE (.int .i64 (k : Int)) (w.heap.size + 1) (r2, bad2) W1)) := HC1.out
    clear HC1 hq
    go_enter Tryz.func85, Tryz.ntmps85
    go_wp2_with fail
    rw [HW1.out]
    refine HC2.out.mono ?_
    rintro e v2 ⟨rfl, hr, hg⟩
    have HDv := Lib.hid (HD1.out.read hr hg)
    clear hr hg HC2 HD1 HW1
    obtain ⟨y0, y1, y2, y3, y4, y5, y6, y7, y8⟩ := HDv.out.o.nine
    have f0 := HDv.out.o.free 0
    obtain ⟨W2, hW2⟩ : ∃ W, (v2.setCell ⟨w.heap.size + 1 + 1, 0, none⟩ (.int .i64 (k : Int))) = W := ⟨_, rfl⟩
    have HD2 : Hid (DeSt w W2 #[.int .i64 (k : Int), .string ⟨#[]⟩, .slice none 0 0, .int .u64 0, .int .u64 0, .slice none 0 0, .string ⟨#[]⟩, .int .i64 0, .string ⟨#[]⟩] r2 bad2) := by rw [← hW2]; exact (HDv.out.set 0 (.int .i64 (k : Int)))
    clear HDv
    obtain ⟨c0, c1, c2, c3, c4, c5, c6, c7, c8⟩ := HD2.out.o.nine
    obtain ⟨⟨t, r3, bad3⟩, hq⟩ : ∃ q, rt (r2, bad2) = q := ⟨_, rfl⟩
    have HC := Lib.hid (rtxt7_any (w.heap.size + 1) r2 bad2 W2 HD2.out.r (HLN.out _ HL2.out))
    have hl := rt_len (r2, bad2)
    rw [hq] at HC hl
    have HQ3 := Lib.hid hq
    simp only at HC hl
    have HL3 : Hid (r3.length ≤ (toL s).length) := by have := HL2.out; show _ ≤ _; omega
    have HE3 := Lib.hid hl
    clear hq hl
    go_wp2_with fail
    refine HC.out.mono ?_
    rintro e v3 ⟨rfl, hr, hg⟩
    have HDv := Lib.hid (HD2.out.read hr hg)
    clear hr hg HC HD2 hW2 c0 c1 c2 c3 c4 c5 c6 c7 c8 y0 y1 y2 y3 y4 y5 y6 y7 y8
    obtain ⟨y0, y1, y2, y3, y4, y5, y6, y7, y8⟩ := HDv.out.o.nine
    have f1 := HDv.out.o.free 1
    obtain ⟨W3, hW3⟩ : ∃ W, (v3.setCell ⟨w.heap.size + 1 + 1, 1, none⟩ (.string (ofL t))) = W := ⟨_, rfl⟩
    have HD3 : Hid (DeSt w W3 #[.int .i64 (k : Int), .string (ofL t), .slice none 0 0, .int .u64 0, .int .u64 0, .slice none 0 0, .string ⟨#[]⟩, .int .i64 0, .string ⟨#[]⟩] r3 bad3) := by rw [← hW3]; exact (HDv.out.set 1 (.string (ofL t)))
    clear HDv
    obtain ⟨c0, c1, c2, c3, c4, c5, c6, c7, c8⟩ := HD3.out.o.nine
    have HP : Hid (pz7 (toL s) = (⟨(k : Int), ofL t, [], zD, [], ⟨#[]⟩, 0, ⟨#[]⟩⟩, (r3, bad3))) := by show _ = _; rw [HP0.out, HQ3.out]
    have HM : Hid (ObM W3 W3.heap.size ⟨(k : Int), ofL t, [], zD, [], ⟨#[]⟩, 0, ⟨#[]⟩⟩ ⟨none, 0, 0, none, 0, 0⟩) := ⟨Sl.nil _ _ _ _, Sl.nil _ _ _ _, Nat.le_refl _, Nat.zero_le _, Nat.le_refl _, Nat.zero_le _⟩
    have HCK := Lib.hid (encodeF7_any ⟨(k : Int), ofL t, [], zD, [], ⟨#[]⟩, 0, ⟨#[]⟩⟩ ⟨none, 0, 0, none, 0, 0⟩ W3.heap.size W3 HM.out (Nat.le_refl _) ⟨wf_zD, (fun d h => by cases h), Nat.zero_le _, Nat.zero_le _, Int.le_refl _, by show (0 : Int) ≤ _; omega, (fun e h => by cases h), (fun e h => by cases h)⟩)
    obtain ⟨op, hop⟩ : ∃ op : Ob, op = ⟨(k : Int), ofL t, [], zD, [], ⟨#[]⟩, 0, ⟨#[]⟩⟩ := ⟨_, rfl⟩
    obtain ⟨osl, hosl⟩ : ∃ osl : Osl, osl = ⟨none, 0, 0, none, 0, 0⟩ := ⟨_, rfl⟩
    have HOP := Lib.hid hop
    have HOS := Lib.hid hosl
    rw [← hop] at HP
    rw [← hop, ← hosl] at HM
    obtain ⟨bs, hbs⟩ : ∃ bs, ofL (encO op) = bs := ⟨_, rfl⟩
    have HBAD : Hid ((bad3 = true ∨ ¬ (OkO op ∧ bs = s)) → ∀ o', OkO o' → s ≠ ofL (encO o')) := fun h => by
      rcases h with h | h
      · have hp := HP.out
        rw [h] at hp; exact decE_bad hp
      · rw [← hbs] at h; exact decE_not HP.out h
    unfold En7 at HCK
    rw [← hop, hbs] at HCK
    have HBS := Lib.hid hbs
    obtain ⟨p, hp⟩ : ∃ p, OkO op = p := ⟨_, rfl⟩
    have HPE := Lib.hid hp
    rw [hp] at HBAD HCK
    rw [hop] at HCK
    simp only [obV, obC] at HCK
    clear c0 c1 c2 c3 c4 c5 c6 c7 c8
    obtain ⟨c0, c1, c2, c3, c4, c5, c6, c7, c8⟩ := HD3.out.o.nine
    obtain ⟨x0, x1, _, _⟩ := HD3.out.r.two
    clear hop hosl hbs hp HP0 HP
    go_wp2_with fail
    refine HCK.out.mono ?_
    rintro e w8 ⟨hq, hb8⟩
    have HD8 := Lib.hid (HD3.out.below (hb8.mono HD3.out.lt))
    have HM8 := Lib.hid ((HM.out.below hb8 (Nat.le_refl _)).more hb8.size)
    clear c0 c1 c2 c3 c4 c5 c6 c7 c8 y0 y1 y2 y3 y4 y5 y6 y7 y8 x0 x1 hb8 HCK hW3 HM
    obtain ⟨c0, c1, c2, c3, c4, c5, c6, c7, c8⟩ := HD8.out.o.nine
    obtain ⟨x0, x1, _, _⟩ := HD8.out.r.two
    obtain ⟨d0, d1', d2', d3, d4, d5, d6, d7, d8⟩ := HD8.out.z.nine
    have g0 := HD8.out.z.free 0; have g1 := HD8.out.z.free 1; have g2 := HD8.out.z.free 2; have g3 := HD8.out.z.free 3; have g4 := HD8.out.z.free 4; have g5 := HD8.out.z.free 5; have g6 := HD8.out.z.free 6; have g7 := HD8.out.z.free 7; have g8 := HD8.out.z.free 8
    have hne : w.heap.size ≠ w.heap.size + 1 + 1 := by omega
    rcases hq with ⟨hp, rfl⟩ | ⟨hp, z, hz, rfl⟩
    · cases bad3 with
      | true =>
        have HB := Lib.hid (HBAD.out (.inl (by trivial)))
        clear hp
        go_wp2_with fail
        refine bodyPost_ret (res_cellOb Tryz.results85 rfl (bk_set9 HD8.out.z _ _ _ _ _ _ _ _ _) rfl) rfl ⟨.inr ⟨HB.out, rfl⟩, below_set9 HD8.out.b (Nat.le_refl _) _ _ _ _ _ _ _ _ _⟩
      | false =>
        have l1 : (bs.toList != s.toList) = !(decide (bs = s)) := by rw [← str_dec]; rfl
        have l2 := str_dec bs s
        by_cases hbe : bs = s
        · rw [decide_eq_true hbe] at l1 l2
          have HOK := Lib.hid hp
          have HBE := Lib.hid hbe
          clear hp hbe
          go_wp2_with fail
          refine bodyPost_ret (res_cellOb Tryz.results85 rfl (bk_set9 HD8.out.z _ _ _ _ _ _ _ _ _) rfl) rfl ⟨.inl ⟨op, osl, by rw [HPE.out]; exact HOK.out, by rw [HBS.out]; exact HBE.out.symm, by rw [HOP.out, HOS.out]; rfl, ?_⟩, below_set9 HD8.out.b (Nat.le_refl _) _ _ _ _ _ _ _ _ _⟩
          rw [HOP.out, HOS.out]
          exact ⟨Sl.nil _ _ _ _, Sl.nil _ _ _ _, Nat.le_refl _, Nat.zero_le _, Nat.le_refl _, Nat.zero_le _⟩
        · rw [decide_eq_false hbe] at l1 l2
          have HB := Lib.hid (HBAD.out (.inr (fun h => hbe h.2)))
          clear hp hbe
          go_wp2_with fail
          refine bodyPost_ret (res_cellOb Tryz.results85 rfl (bk_set9 HD8.out.z _ _ _ _ _ _ _ _ _) rfl) rfl ⟨.inr ⟨HB.out, rfl⟩, below_set9 HD8.out.b (Nat.le_refl _) _ _ _ _ _ _ _ _ _⟩
    · have HB := Lib.hid (HBAD.out (.inr (fun h => hp h.1)))
      have hzn : (z != 0) = true := by rw [bne_iff_ne]; exact hz
      clear hp hz
      cases bad3 with
      | true =>
        go_wp2_with fail
        refine bodyPost_ret (res_cellOb Tryz.results85 rfl (bk_set9 HD8.out.z _ _ _ _ _ _ _ _ _) rfl) rfl ⟨.inr ⟨HB.out, rfl⟩, below_set9 HD8.out.b (Nat.le_refl _) _ _ _ _ _ _ _ _ _⟩
      | false =>
        go_wp2_with fail
        refine bodyPost_ret (res_cellOb Tryz.results85 rfl (bk_set9 HD8.out.z _ _ _ _ _ _ _ _ _) rfl) rfl ⟨.inr ⟨HB.out, rfl⟩, below_set9 HD8.out.b (Nat.le_refl _) _ _ _ _ _ _ _ _ _⟩
end Go.Proofs.YtmdhlkkekidknaaGreatDoor

namespace Go.Proofs.YtmdhlkkekidknaaGreatDoor
open Go.RowKit

def Gr8End (n : Nat) (p : List Itm) (w : World) (e : Ending) (w' : World) : Prop := ∃ r : Bool, e = .returned (.bool r) ∧ (r = false → n ≤ 40 ∧ ∀ i ∈ p, i.2.size ≤ 500) ∧ w = w'
set_option maxRecDepth 100000 in
set_option maxHeartbeats 2000000 in
theorem great8_any (A : Option Addr) (n c B : Nat) (p : List Itm) (w : World) (h0 : Sl w B 3 A n (flat itC p)) (hn : n ≤ maxLen) (hs : ∀ i ∈ p, i.2.size ≤ maxLen) :
    Calls Tryz.prog 42 #[.slice A n c] w (Gr8End n p w) := by
  unfold maxLen at hn
  have HL0 := Lib.hid (h0.len itC_len (by omega))
  have H0 := Lib.hid h0; clear h0
  have HS := Lib.hid hs; clear hs
  go_enter Tryz.func42, Tryz.ntmps42
  by_cases hbig : (40 : Int) < (n : Int)
  · go_wp2
    go_ret
    exact ⟨true, rfl, (fun e => by cases e), rfl⟩
  go_wp2
  go_loopw [3] (fun i wr => ∃ k : Nat, k ≤ n ∧ i = .int .i64 k ∧ wr = w ∧ Hid (∀ f ∈ p.take k, f.2.size ≤ 500)) (fun i _ => n - (intOf i).toNat)
  case atStart => exact ⟨0, Nat.zero_le _, rfl, rfl, fun y hy => by simp at hy⟩
  case round =>
    obtain ⟨k, hk, rfl, rfl, hN⟩ := hrel
    by_cases hlt : k < n
    · obtain ⟨b, off, f, rfl, hb, hf, y0, y1, y2⟩ := H0.out.it hlt
      have hkz : (k : Int) < (n : Int) := by omega
      have hf2 : f.2.size ≤ 9223372036854775807 := by have := HS.out f (List.mem_of_getElem? hf); unfold maxLen at this; exact this
      have HF := Lib.hid hf; clear hf
      by_cases c2 : (500 : Int) < (f.2.size : Int)
      · go_wp2
        go_ret
        exact ⟨true, rfl, (fun e => by cases e), rfl⟩
      have HN : Hid (∀ f ∈ p.take (k + 1), f.2.size ≤ 500) := fun y hy => by
        rw [take_snoc HF.out] at hy
        rcases List.mem_append.1 hy with hy | hy
        · exact hN.out y hy
        · rw [List.mem_singleton.1 hy]; omega
      go_wp2
      go_roundw
      case rel => exact ⟨k + 1, hlt, by go_num, trivial, HN.out⟩
      case measure => simp [intOf]; omega
    · have hkz : ¬ (k : Int) < (n : Int) := by omega
      have HN : Hid (∀ f ∈ p, f.2.size ≤ 500) := by
        have := hN.out
        rwa [List.take_of_length_le (by rw [HL0.out]; omega)] at this
      go_wp2
      go_ret
      exact ⟨false, rfl, (fun _ => ⟨by omega, HN.out⟩), rfl⟩
theorem plok_snoc {p : List Itm} {k : Nat} {x : Itm} (h : PlOk (p.take k)) (hx : p[k]? = some x) (he : ∃ o, OkO o ∧ x.2 = ofL (encO o)) (hd : x.1 = ofB (toL x.2)) (hp : ∀ y, 0 < k → p[k - 1]? = some y → ltD y.1 x.1) : PlOk (p.take (k + 1)) := by
  rw [take_snoc hx]
  refine ⟨fun i hi => ?_, fun i hi => ?_, ?_⟩
  · rcases List.mem_append.1 hi with hi | hi
    · exact h.enc i hi
    · rw [List.mem_singleton.1 hi]; exact he
  · rcases List.mem_append.1 hi with hi | hi
    · exact h.dg i hi
    · rw [List.mem_singleton.1 hi]; exact hd
  · rw [List.pairwise_append]
    refine ⟨h.asc, List.pairwise_singleton _ _, fun a ha b hb => ?_⟩
    rw [List.mem_singleton.1 hb]
    have hk0 : 0 < k := by
      rcases Nat.eq_zero_or_pos k with h0 | h0
      · subst h0; simp at ha
      · exact h0
    have hkl := (List.getElem?_eq_some_iff.1 hx).1
    have hy : p[k - 1]? = some (p[k - 1]'(by omega)) := List.getElem?_eq_getElem _
    have hlast := hp _ hk0 hy
    obtain ⟨j, hj, e⟩ := List.getElem_of_mem ha
    rw [List.length_take] at hj
    rw [List.getElem_take] at e
    rcases Nat.lt_or_ge j (k - 1) with h1 | h1
    · have hasc := h.asc
      rw [List.pairwise_iff_getElem] at hasc
      have h2 := hasc j (k - 1) (by rw [List.length_take]; omega) (by rw [List.length_take]; omega) h1
      rw [List.getElem_take, List.getElem_take, e] at h2
      exact ltD_trans h2 hlast
    · have : j = k - 1 := by omega
      subst this
      rw [← e]; exact hlast
def Ck8End (p : List Itm) (w : World) (e : Ending) (w' : World) : Prop := ∃ err : Int, e = .returned (.int .i64 err) ∧ (err = 0 → PlOk p) ∧ Below w.heap.size w w'
set_option maxRecDepth 100000 in
set_option maxHeartbeats 8000000 in
theorem check8_any (A : Option Addr) (n c B : Nat) (p : List Itm) (w : World) (h0 : Sl w B 3 A n (flat itC p)) (hB : B ≤ w.heap.size) (hn : n ≤ 1000) (hs : ∀ i ∈ p, i.2.size ≤ 1000) :
    Calls Tryz.prog 43 #[.slice A n c] w (Ck8End p w) := by
  have HL0 := Lib.hid (h0.len itC_len (by omega))
  have H0 := Lib.hid h0; clear h0
  have HS := Lib.hid hs; clear hs
  go_enter Tryz.func43, Tryz.ntmps43
  go_wp2_with fail
  go_loopw [3] (fun i wr => ∃ k : Nat, k ≤ n ∧ i = .int .i64 (k : Int) ∧ Hid (PlOk (p.take k)) ∧ Hid (Below w.heap.size w wr)) (fun i _ => n - (intOf i).toNat)
  case atStart => exact ⟨0, Nat.zero_le _, rfl, by rw [List.take_zero]; exact PlOk.nil, Below.refl _ _⟩
  case round =>
    obtain ⟨k, hk, rfl, hN, hBel⟩ := hrel
    by_cases hlt : k < n
    · have hlz : (k : Int) < (n : Int) := by omega
      obtain ⟨b, off, x, rfl, hb, hx, y0, y1, y2⟩ := (H0.out.below hBel.out hB).it hlt
      have HX := Lib.hid hx
      have hxs := HS.out x (List.mem_of_getElem? hx)
      clear hx
      obtain ⟨⟨x1, x2⟩, xs⟩ := x
      simp only at y0 y1 y2 hxs
      have HD := Lib.hid (decode7_any xs wr (by omega))
      unfold DecE at HD
      have zb : b < wr.heap.size := by have := hBel.out.size; omega
      go_wp2_with fail
      refine HD.out.mono ?_
      rintro e w2 ⟨hq, hb2⟩
      have HB2 : Hid (Below w.heap.size w w2) := hBel.out.trans (hb2.mono hBel.out.size)
      obtain ⟨q0, q1, q2⟩ : w2.cell? ⟨b, off + k * 3, none⟩ = some (.int .u64 x1) ∧ w2.cell? ⟨b, off + k * 3 + 1, none⟩ = some (.int .u64 x2) ∧ w2.cell? ⟨b, off + k * 3 + 2, none⟩ = some (.string xs) := ⟨(hb2.cell (p := ⟨b, off + k * 3, none⟩) zb).trans y0, (hb2.cell (p := ⟨b, off + k * 3 + 1, none⟩) zb).trans y1, (hb2.cell (p := ⟨b, off + k * 3 + 2, none⟩) zb).trans y2⟩
      have zb2 : b < w2.heap.size := by have := hb2.size; omega
      clear hb2 HD y0 y1 y2 hBel
      rcases hq with ⟨o, sl, ho, he, rfl, _⟩ | ⟨_, rfl⟩
      case inr =>
        clear q0 q1 q2
        go_wp2_with fail
        go_ret
        exact ⟨13, rfl, (fun h => by cases h), HB2.out.alloc HB2.out.size _⟩
      case inl =>
        have HE : Hid (∃ o, OkO o ∧ xs = ofL (encO o)) := ⟨o, ho, he⟩
        simp only [obV, obC]
        clear ho he
        obtain ⟨W3, hW3⟩ : ∃ W3, w2.alloc (.cells #[.int .i64 o.kind, .string o.data, .slice sl.eA sl.en sl.ec, .int .u64 o.tree.1, .int .u64 o.tree.2, .slice sl.pA sl.pn sl.pc, .string o.auth, .int .i64 o.time, .string o.msg] 82) = W3 := ⟨_, rfl⟩
        have hb3 : Below w2.heap.size w2 W3 := by rw [← hW3]; exact (Below.refl _ w2).alloc (Nat.le_refl _) _
        have HB3 : Hid (Below w.heap.size w W3) := HB2.out.trans (hb3.mono HB2.out.size)
        obtain ⟨k0, k1, k2⟩ : W3.cell? ⟨b, off + k * 3, none⟩ = some (.int .u64 x1) ∧ W3.cell? ⟨b, off + k * 3 + 1, none⟩ = some (.int .u64 x2) ∧ W3.cell? ⟨b, off + k * 3 + 2, none⟩ = some (.string xs) := ⟨(hb3.cell (p := ⟨b, off + k * 3, none⟩) zb2).trans q0, (hb3.cell (p := ⟨b, off + k * 3 + 1, none⟩) zb2).trans q1, (hb3.cell (p := ⟨b, off + k * 3 + 2, none⟩) zb2).trans q2⟩
        have zb3 : b < W3.heap.size := by have := hb3.size; omega
        have HOF := Lib.hid (fun W => rof_any xs W (by unfold maxLen; omega))
        unfold OfEnd at HOF
        obtain ⟨⟨g1, g2⟩, hg⟩ : ∃ g, ofB (toL xs) = g := ⟨_, rfl⟩
        rw [hg] at HOF
        have HG := Lib.hid hg
        simp only [digV] at HOF
        clear hg hb3
        by_cases hgx : g1 = x1 ∧ g2 = x2
        case neg =>
          have hgf : (g1 == x1 && g2 == x2) = false := by
            rw [Bool.eq_false_iff]; intro h
            rw [Bool.and_eq_true, beq_iff_eq, beq_iff_eq] at h
            exact hgx h
          clear hgx
          go_wp2_with fail
          clear hW3 q0 q1 q2
          go_region_held3 (fun w' => w'.cell? ⟨b, off + k * 3, none⟩ = some (.int .u64 x1) ∧ w'.cell? ⟨b, off + k * 3 + 1, none⟩ = some (.int .u64 x2) ∧ w'.cell? ⟨b, off + k * 3 + 2, none⟩ = some (.string xs))
            (first | exact ⟨k0, k1, k2⟩ | exact ⟨m0.out, m1.out, m2.out⟩)
            (first
              | (go_at_call 20; refine (HOF.out _).mono ?_; rintro e w7 ⟨rfl, hb2⟩
                 have m0 := Lib.hid ((hb2.cell (p := ⟨b, off + k * 3, none⟩) (by show b < _; simp; omega)).trans k0); have m1 := Lib.hid ((hb2.cell (p := ⟨b, off + k * 3 + 1, none⟩) (by show b < _; simp; omega)).trans k1); have m2 := Lib.hid ((hb2.cell (p := ⟨b, off + k * 3 + 2, none⟩) (by show b < _; simp; omega)).trans k2)
                 have hR : Hid (Below W3.heap.size W3 w7) := (Below.refl _ W3).drew.trans hb2
                 clear hb2))
          have HB8 : Hid (Below w.heap.size w w7) := HB3.out.trans (hR.out.mono HB3.out.size)
          have p0 := m0.out; have p1 := m1.out; have p2 := m2.out
          have zb7 : b < w7.heap.size := by have := hR.out.size; omega
          clear HB3 HB2 hR k0 k1 k2
          clear p0 p1 p2 m0 m1 m2
          go_wp2_with fail
          go_ret
          exact ⟨15, rfl, (fun h => by cases h), HB8.out⟩
        case pos =>
          obtain ⟨rfl, rfl⟩ := hgx
          have hgf : (g1 == g1 && g2 == g2) = true := by simp
          go_wp2_with fail
          clear hW3 q0 q1 q2
          go_region_held3 (fun w' => w'.cell? ⟨b, off + k * 3, none⟩ = some (.int .u64 g1) ∧ w'.cell? ⟨b, off + k * 3 + 1, none⟩ = some (.int .u64 g2) ∧ w'.cell? ⟨b, off + k * 3 + 2, none⟩ = some (.string xs))
            (first | exact ⟨k0, k1, k2⟩ | exact ⟨m0.out, m1.out, m2.out⟩)
            (first
              | (go_at_call 20; refine (HOF.out _).mono ?_; rintro e w7 ⟨rfl, hb2⟩
                 have m0 := Lib.hid ((hb2.cell (p := ⟨b, off + k * 3, none⟩) (by show b < _; simp; omega)).trans k0); have m1 := Lib.hid ((hb2.cell (p := ⟨b, off + k * 3 + 1, none⟩) (by show b < _; simp; omega)).trans k1); have m2 := Lib.hid ((hb2.cell (p := ⟨b, off + k * 3 + 2, none⟩) (by show b < _; simp; omega)).trans k2)
                 have hR : Hid (Below W3.heap.size W3 w7) := (Below.refl _ W3).drew.trans hb2
                 clear hb2))
          have HB8 : Hid (Below w.heap.size w w7) := HB3.out.trans (hR.out.mono HB3.out.size)
          have p0 := m0.out; have p1 := m1.out; have p2 := m2.out
          have zb7 : b < w7.heap.size := by have := hR.out.size; omega
          clear HB3 HB2 hR k0 k1 k2
          clear m0 m1 m2
          have HG2 : Hid ((g1, g2) = ofB (toL xs)) := HG.out.symm
          by_cases hk0 : k = 0
          · subst hk0
            have HP1 : Hid (PlOk (p.take (0 + 1))) := plok_snoc hN.out HX.out HE.out HG2.out (fun y h => absurd h (Nat.lt_irrefl 0))
            clear p0 p1 p2
            go_wp2_with fail
            go_region
            go_wp2_with fail
            go_roundw
            case rel => exact ⟨0 + 1, hlt, by go_num, HP1.out, HB8.out.drew⟩
            case measure => simp [intOf]; omega
          · obtain ⟨j, rfl⟩ : ∃ j, k = j + 1 := ⟨k - 1, by omega⟩
            obtain ⟨b3, off3, y, hA3, hb3, hy, z0, z1, z2⟩ := (H0.out.below HB8.out hB).it (k := j) (by omega)
            injection hA3 with hA3
            injection hA3 with hA3 hA4
            subst hA3; subst hA4
            have HY := Lib.hid hy
            clear hy
            obtain ⟨⟨y1', y2'⟩, ys⟩ := y
            simp only at z0 z1 z2
            have hj1 : IntKind.i64.wrap (j : Int) = (j : Int) := by rw [IntKind.wrap_i64]; omega
            have hjn : j < n := by omega
            have hj2 : (j : Int) + 1 < (n : Int) := by omega
            have hj3 : (0 : Int) ≤ (j : Int) + 1 := by omega
            have hj4 : ((j : Int) + 1).toNat = j + 1 := by omega
            have HCM := Lib.hid (fun W => dcmp2_any (y1', y2') (g1, g2) W)
            unfold CmE at HCM
            simp only [digV] at HCM
            obtain ⟨cz, hcz⟩ : ∃ cz, cmpD (y1', y2') (g1, g2) = cz := ⟨_, rfl⟩
            rw [hcz] at HCM
            have HCZ := Lib.hid hcz
            clear hcz
            by_cases hcz : cz < 0
            case neg =>
              have hc2 : (0 : Int) ≤ cz := by omega
              clear hcz
              go_wp2_with fail
              go_region_held3 (fun w' => w'.cell? ⟨b, off + j * 3, none⟩ = some (.int .u64 y1') ∧ w'.cell? ⟨b, off + j * 3 + 1, none⟩ = some (.int .u64 y2') ∧ w'.cell? ⟨b, off + (j + 1) * 3, none⟩ = some (.int .u64 g1) ∧ w'.cell? ⟨b, off + (j + 1) * 3 + 1, none⟩ = some (.int .u64 g2))
                (first | exact ⟨z0, z1, p0, p1⟩ | exact ⟨n0.out, n1.out, n2.out, n3.out⟩)
                (first
                  | (go_at_call 86; refine (HCM.out _).mono ?_; rintro e w8 ⟨rfl, hb8⟩
                     have n0 := Lib.hid ((hb8.cell (p := ⟨b, off + j * 3, none⟩) (by show b < _; simp; omega)).trans z0); have n1 := Lib.hid ((hb8.cell (p := ⟨b, off + j * 3 + 1, none⟩) (by show b < _; simp; omega)).trans z1); have n2 := Lib.hid ((hb8.cell (p := ⟨b, off + (j + 1) * 3, none⟩) (by show b < _; simp; omega)).trans p0); have n3 := Lib.hid ((hb8.cell (p := ⟨b, off + (j + 1) * 3 + 1, none⟩) (by show b < _; simp; omega)).trans p1)
                     have hR8 : Hid (Below w7.heap.size w7 w8) := (Below.refl _ w7).drew.trans hb8
                     clear hb8))
              have HB9 : Hid (Below w.heap.size w w8) := HB8.out.trans (hR8.out.mono HB8.out.size)
              clear n0 n1 n2 n3 z0 z1 z2 p0 p1 p2 hR8
              go_wp2_with fail
              go_ret
              exact ⟨10, rfl, (fun h => by cases h), HB9.out⟩
            case pos =>
              have hc2 : ¬ (0 : Int) ≤ cz := by omega
              have HLT : Hid (ltD (y1', y2') (g1, g2)) := (cmpD_lt _ _).1 (by rw [HCZ.out]; exact hcz)
              have HP1 : Hid (PlOk (p.take (j + 1 + 1))) := plok_snoc hN.out HX.out HE.out HG2.out (fun y _ hy => by
                rw [Nat.add_sub_cancel, HY.out] at hy
                injection hy with hy
                rw [← hy]; exact HLT.out)
              clear hcz
              go_wp2_with fail
              go_region_held3 (fun w' => w'.cell? ⟨b, off + j * 3, none⟩ = some (.int .u64 y1') ∧ w'.cell? ⟨b, off + j * 3 + 1, none⟩ = some (.int .u64 y2') ∧ w'.cell? ⟨b, off + (j + 1) * 3, none⟩ = some (.int .u64 g1) ∧ w'.cell? ⟨b, off + (j + 1) * 3 + 1, none⟩ = some (.int .u64 g2))
                (first | exact ⟨z0, z1, p0, p1⟩ | exact ⟨n0.out, n1.out, n2.out, n3.out⟩)
                (first
                  | (go_at_call 86; refine (HCM.out _).mono ?_; rintro e w8 ⟨rfl, hb8⟩
                     have n0 := Lib.hid ((hb8.cell (p := ⟨b, off + j * 3, none⟩) (by show b < _; simp; omega)).trans z0); have n1 := Lib.hid ((hb8.cell (p := ⟨b, off + j * 3 + 1, none⟩) (by show b < _; simp; omega)).trans z1); have n2 := Lib.hid ((hb8.cell (p := ⟨b, off + (j + 1) * 3, none⟩) (by show b < _; simp; omega)).trans p0); have n3 := Lib.hid ((hb8.cell (p := ⟨b, off + (j + 1) * 3 + 1, none⟩) (by show b < _; simp; omega)).trans p1)
                     have hR8 : Hid (Below w7.heap.size w7 w8) := (Below.refl _ w7).drew.trans hb8
                     clear hb8))
              have HB9 : Hid (Below w.heap.size w w8) := HB8.out.trans (hR8.out.mono HB8.out.size)
              clear n0 n1 n2 n3 z0 z1 z2 p0 p1 p2 hR8
              go_wp2_with fail
              go_roundw
              case rel => exact ⟨j + 1 + 1, hlt, by go_num, HP1.out, HB9.out⟩
              case measure => simp [intOf]; omega
    · have hlz : ¬ (k : Int) < (n : Int) := by omega
      have HN : Hid (PlOk p) := by
        have := hN.out
        rwa [List.take_of_length_le (by rw [HL0.out]; omega)] at this
      have HB2 := Lib.hid hBel.out
      clear hN hBel
      go_wp2_with fail
      go_ret
      exact ⟨0, rfl, fun _ => HN.out, HB2.out⟩
end Go.Proofs.YtmdhlkkekidknaaGreatDoor

namespace Go.Proofs.YtmdhlkkekidknaaGreatDoor
open Go.RowKit

def Vl9End (n : Nat) (p : List Itm) (w : World) (e : Ending) (w' : World) : Prop := ∃ r : Bool, e = .returned (.bool r) ∧ (r = true → n ≤ 40 ∧ (∀ i ∈ p, i.2.size ≤ 500) ∧ PlOk p) ∧ Below w.heap.size w w'
set_option maxRecDepth 100000 in
set_option maxHeartbeats 2000000 in
theorem valid9_any (A : Option Addr) (n c : Nat) (p : List Itm) (w : World) (h0 : Sl w w.heap.size 3 A n (flat itC p)) (hn : n ≤ maxLen) (hs : ∀ i ∈ p, i.2.size ≤ maxLen) :
    Calls Tryz.prog 12 #[.slice A n c] w (Vl9End n p w) := by
  have H0 := Lib.hid h0
  have HG := Lib.hid (great8_any A n c w.heap.size p w h0 hn hs)
  unfold Gr8End at HG
  clear h0 hs
  go_enter Tryz.func12, Tryz.ntmps12
  go_wp2_with fail
  refine HG.out.mono ?_
  rintro e w1 ⟨r, rfl, hr, rfl⟩
  have HR := Lib.hid hr
  clear hr HG
  cases r with
  | true =>
    go_wp2_with fail
    go_ret
    exact ⟨false, rfl, (fun h => by cases h), Below.refl _ _⟩
  | false =>
    obtain ⟨hn40, hsz⟩ := HR.out rfl
    have HSZ := Lib.hid hsz
    have HC := Lib.hid (check8_any A n c w.heap.size p w H0.out (Nat.le_refl _) (by omega) (fun i hi => Nat.le_trans (hsz i hi) (by omega)))
    unfold Ck8End at HC
    clear hsz
    go_wp2_with fail
    refine HC.out.mono ?_
    rintro e w2 ⟨err, rfl, he, hb⟩
    have HE := Lib.hid he; have HB := Lib.hid hb
    clear he hb HC
    go_wp2_with fail
    go_ret
    refine ⟨(err == 0), rfl, fun h => ⟨hn40, HSZ.out, HE.out (by simpa using h)⟩, HB.out⟩
end Go.Proofs.YtmdhlkkekidknaaGreatDoor

namespace Go.Proofs.YtmdhlkkekidknaaGreatDoor
open Go.RowKit

set_option maxRecDepth 100000 in
set_option maxHeartbeats 4000000 in
theorem pitem_any (x : Itm) (w : World) (hx : ∃ o, OkO o ∧ x.2 = ofL (encO o)) (hd : x.1 = ofB (toL x.2)) :
    Calls Tryz.prog 61 #[itV x] w fun e w' => e = .returned (.int .i64 0) ∧ Below w.heap.size w w' := by
  obtain ⟨⟨d1, d2⟩, s⟩ := x
  obtain ⟨o, ho, hs⟩ := hx
  simp only at hs hd
  have hsz : s.size ≤ maxLen := by rw [hs, size_ofL]; have := ho.len; unfold maxLen; omega
  have HOF := Lib.hid (fun W => of_any s W hsz)
  unfold OfEnd at HOF
  rw [← hd] at HOF
  obtain ⟨W, hW⟩ : ∃ W, w.alloc (.cells #[.int .u64 d1, .int .u64 d2, .string s] 38) = W := ⟨_, rfl⟩
  have HB0 : Hid (Below w.heap.size w W) := by rw [← hW]; exact (Below.refl _ w).alloc (Nat.le_refl _) _
  have HK : Hid (Bk W w.heap.size 38 #[.int .u64 d1, .int .u64 d2, .string s]) := by rw [← hW]; exact Bk.new w _ _
  have zk : w.heap.size < W.heap.size := HK.out.lt
  have HD := Lib.hid (odecode_any o W ho)
  rw [← hs] at HD
  unfold OdE at HD
  simp only [digV, itV] at HOF ⊢
  obtain ⟨x0, x1, x2⟩ := HK.out.three
  have HW := Lib.hid hW
  rw [← hW] at x0 x1 x2
  clear hs hd hsz hW ho
  go_enter Tryz.func61, Tryz.ntmps61
  go_wp2_with fail
  rw [HW.out]
  refine HD.out.mono ?_
  rintro e w2 ⟨sl, rfl, _, hb, _⟩
  have HK2 := Lib.hid (HK.out.below hb zk)
  have HB2 : Hid (Below w.heap.size w w2) := HB0.out.trans (hb.mono HB0.out.size)
  clear hb HD x0 x1 x2 HW
  simp only [obV, obC]
  obtain ⟨W3, hW3⟩ : ∃ W3, w2.alloc (.cells #[.int .i64 o.kind, .string o.data, .slice sl.eA sl.en sl.ec, .int .u64 o.tree.1, .int .u64 o.tree.2, .slice sl.pA sl.pn sl.pc, .string o.auth, .int .i64 o.time, .string o.msg] 82) = W3 := ⟨_, rfl⟩
  have hb3 : Below w2.heap.size w2 W3 := by rw [← hW3]; exact (Below.refl _ w2).alloc (Nat.le_refl _) _
  have HB3 : Hid (Below w.heap.size w W3) := HB2.out.trans (hb3.mono HB2.out.size)
  have HK3 := Lib.hid (HK2.out.below hb3 HK2.out.lt)
  have zk3 : w.heap.size < W3.heap.size := HK3.out.lt
  obtain ⟨k0, k1, k2⟩ := HK3.out.three
  have hdd : (d1 != d1 || d2 != d2) = false := by simp
  have hde : (d1 == d1 && d2 == d2) = true := by simp
  clear hb3 HB2 HK2
  go_wp2_with fail
  clear hW3
  go_region_held3 (fun w' => w'.cell? ⟨w.heap.size, 0, none⟩ = some (.int .u64 d1) ∧ w'.cell? ⟨w.heap.size, 1, none⟩ = some (.int .u64 d2) ∧ w'.cell? ⟨w.heap.size, 2, none⟩ = some (.string s))
    (first | exact ⟨k0, k1, k2⟩ | exact ⟨m0.out, m1.out, m2.out⟩)
    (first
      | (go_at_call 113; refine (HOF.out _).mono ?_; rintro e w7 ⟨rfl, hb2⟩
         have m0 := Lib.hid ((hb2.cell (p := ⟨w.heap.size, 0, none⟩) (by show w.heap.size < _; simp; omega)).trans k0); have m1 := Lib.hid ((hb2.cell (p := ⟨w.heap.size, 1, none⟩) (by show w.heap.size < _; simp; omega)).trans k1); have m2 := Lib.hid ((hb2.cell (p := ⟨w.heap.size, 2, none⟩) (by show w.heap.size < _; simp; omega)).trans k2)
         have hR : Hid (Below W3.heap.size W3 w7) := (Below.refl _ W3).drew.trans hb2
         clear hb2))
  have HB8 : Hid (Below w.heap.size w w7) := HB3.out.trans (hR.out.mono HB3.out.size)
  clear m0 m1 m2 k0 k1 k2 hR HB3
  go_wp2_with fail
  go_ret
  exact ⟨rfl, HB8.out⟩
set_option maxRecDepth 100000 in
set_option maxHeartbeats 8000000 in
theorem pcheck_any (A : Option Addr) (n c B : Nat) (p : List Itm) (w : World) (h0 : Sl w B 3 A n (flat itC p)) (hB : B ≤ w.heap.size) (hn : n ≤ 1000000) (hp : PlOk p) :
    Calls Tryz.prog 25 #[.slice A n c] w fun e w' => e = .returned (.int .i64 0) ∧ Below w.heap.size w w' := by
  have HL := Lib.hid (h0.len itC_len (by omega))
  have H0 := Lib.hid h0; have HP := Lib.hid hp
  clear h0 hp
  go_enter Tryz.func25, Tryz.ntmps25
  go_wp2_with fail
  go_loopw [8] (fun i wr => ∃ k : Nat, k ≤ n ∧ i = .int .i64 (k : Int) ∧ Hid (Below w.heap.size w wr)) (fun i _ => n - (intOf i).toNat)
  case atStart => exact ⟨0, Nat.zero_le _, rfl, Below.refl _ _⟩
  case round =>
    obtain ⟨k, hk, rfl, hBel⟩ := hrel
    by_cases hlt : k < n
    · have hlz : (k : Int) < (n : Int) := by omega
      obtain ⟨b, off, x, rfl, hb, hx, y0, y1, y2⟩ := (H0.out.below hBel.out hB).it hlt
      have HX := Lib.hid hx
      have hmem := List.mem_of_getElem? hx
      have HE := Lib.hid (HP.out.enc x hmem); have HDG := Lib.hid (HP.out.dg x hmem)
      have HBE := Lib.hid hBel.out
      clear hx hmem hBel
      obtain ⟨⟨x1, x2⟩, xs⟩ := x
      simp only at y0 y1 y2
      obtain ⟨W6, hW6⟩ : ∃ W6, wr.alloc (.cells #[.int .u64 x1, .int .u64 x2, .string xs] 38) = W6 := ⟨_, rfl⟩
      have hb6 : Below wr.heap.size wr W6 := by rw [← hW6]; exact (Below.refl _ wr).alloc (Nat.le_refl _) _
      have HB6 : Hid (Below w.heap.size w W6) := HBE.out.trans (hb6.mono HBE.out.size)
      have HK6 : Hid (Bk W6 wr.heap.size 38 #[.int .u64 x1, .int .u64 x2, .string xs]) := by rw [← hW6]; exact Bk.new wr _ _
      have HC := Lib.hid (pitem_any ((x1, x2), xs) W6 HE.out HDG.out)
      simp only [itV] at HC
      have zk : wr.heap.size < W6.heap.size := HK6.out.lt
      have zr : w.heap.size ≤ wr.heap.size := HBE.out.size
      obtain ⟨x0', x1', x2'⟩ := HK6.out.three
      have HW6 := Lib.hid hW6
      rw [← hW6] at x0' x1' x2'
      clear hb6 hW6 HBE
      go_wp2_with fail
      rw [HW6.out]
      refine HC.out.mono ?_
      rintro e w7 ⟨rfl, hb7⟩
      have HB7 : Hid (Below w.heap.size w w7) := HB6.out.trans (hb7.mono HB6.out.size)
      have HK7 := Lib.hid (HK6.out.below hb7 zk)
      have zk7 : wr.heap.size < w7.heap.size := HK7.out.lt
      obtain ⟨k0, k1, k2⟩ := HK7.out.three
      clear hb7 HC HB6 HK6 HW6 x0' x1' x2' y0 y1 y2
      by_cases hk0 : k = 0
      · subst hk0
        go_wp2_with fail
        go_quiet (fail)
        go_wp2_with fail
        go_roundw
        case rel => exact ⟨0 + 1, hlt, by go_num, below_drewN HB7.out _⟩
        case measure => simp [intOf]; omega
      · obtain ⟨j, rfl⟩ : ∃ j, k = j + 1 := ⟨k - 1, by omega⟩
        obtain ⟨b3, off3, y, hA3, hb3, hy, z0, z1, z2⟩ := (H0.out.below HB7.out hB).it (k := j) (by omega)
        injection hA3 with hA3
        injection hA3 with hA3 hA4
        subst hA3; subst hA4
        have hltd : ltD y.1 (x1, x2) := by
          have h1 := HP.out.asc
          rw [List.pairwise_iff_getElem] at h1
          obtain ⟨l1, e1⟩ := List.getElem?_eq_some_iff.1 hy
          obtain ⟨l2, e2⟩ := List.getElem?_eq_some_iff.1 HX.out
          have h2 := h1 j (j + 1) l1 l2 (by omega)
          rw [e1, e2] at h2; exact h2
        have hcz : cmpD (x1, x2) y.1 = 1 := by
          unfold cmpD
          rw [if_neg (fun e => ltD_irrefl _ (by rw [e] at hltd; exact hltd)), if_neg (fun h => ltD_irrefl _ (ltD_trans h hltd))]
        clear hy hltd
        obtain ⟨⟨y1', y2'⟩, ys⟩ := y
        simp only at z0 z1 z2 hcz
        have hj1 : IntKind.i64.wrap (j : Int) = (j : Int) := by rw [IntKind.wrap_i64]; omega
        have hjn : j < n := by omega
        have hj2 : (j : Int) + 1 < (n : Int) := by omega
        have hj3 : (0 : Int) ≤ (j : Int) + 1 := by omega
        have hj4 : ((j : Int) + 1).toNat = j + 1 := by omega
        have hj5 : (0 : Int) < (j : Int) + 1 := by omega
        have HCM := Lib.hid (fun W => dcmp_any (x1, x2) (y1', y2') W)
        unfold CmE at HCM
        rw [hcz] at HCM
        simp only [digV] at HCM
        have zb : b < w7.heap.size := by omega
        clear hcz
        go_wp2_with fail
        go_region_held3 (fun w' => w'.cell? ⟨b, off + j * 3, none⟩ = some (.int .u64 y1') ∧ w'.cell? ⟨b, off + j * 3 + 1, none⟩ = some (.int .u64 y2') ∧ w'.cell? ⟨wr.heap.size, 0, none⟩ = some (.int .u64 x1) ∧ w'.cell? ⟨wr.heap.size, 1, none⟩ = some (.int .u64 x2))
          (first | exact ⟨z0, z1, k0, k1⟩ | exact ⟨n0.out, n1.out, n2.out, n3.out⟩)
          (first
            | (go_at_call 62; refine (HCM.out _).mono ?_; rintro e w8 ⟨rfl, hb8⟩
               have n0 := Lib.hid ((hb8.cell (p := ⟨b, off + j * 3, none⟩) (by show b < _; simp; omega)).trans z0); have n1 := Lib.hid ((hb8.cell (p := ⟨b, off + j * 3 + 1, none⟩) (by show b < _; simp; omega)).trans z1); have n2 := Lib.hid ((hb8.cell (p := ⟨wr.heap.size, 0, none⟩) (by show wr.heap.size < _; simp; omega)).trans k0); have n3 := Lib.hid ((hb8.cell (p := ⟨wr.heap.size, 1, none⟩) (by show wr.heap.size < _; simp; omega)).trans k1)
               have hR8 : Hid (Below w7.heap.size w7 w8) := (Below.refl _ w7).drew.trans hb8
               clear hb8))
        have HB9 : Hid (Below w.heap.size w w8) := HB7.out.trans (hR8.out.mono HB7.out.size)
        clear n0 n1 n2 n3 z0 z1 z2 k0 k1 k2 hR8
        go_wp2_with fail
        go_roundw
        case rel => exact ⟨j + 1 + 1, hlt, by go_num, HB9.out⟩
        case measure => simp [intOf]; omega
    · have hlz : ¬ (k : Int) < (n : Int) := by omega
      have HBE := Lib.hid hBel.out
      clear hBel
      go_wp2_with fail
      go_ret
      exact ⟨rfl, HBE.out⟩
end Go.Proofs.YtmdhlkkekidknaaGreatDoor

namespace Go.Proofs.YtmdhlkkekidknaaGreatDoor
open Go.RowKit

set_option maxRecDepth 100000 in
set_option maxHeartbeats 32000000 in
theorem lawRt_any (A1 A2 : Option Addr) (n1 c1 n2 c2 : Nat) (ps : List Itm) (fs : List Fl) (d : Dig) (w : World) (h1 : Sl w w.heap.size 3 A1 n1 (flat itC ps)) (h2 : Sl w w.heap.size 2 A2 n2 (flat flC fs)) (k1 : n1 ≤ c1) (k2 : c1 ≤ maxLen) (m2 : n2 ≤ maxLen) (s1 : ∀ i ∈ ps, i.2.size ≤ maxLen) (s2 : ∀ f ∈ fs, f.1.size ≤ maxLen ∧ f.2.size ≤ maxLen) :
    Calls Tryz.prog 5 #[.slice A1 n1 c1, .slice A2 n2 c2, digV d] w (LawE w) := by
  have H1 := Lib.hid h1; have H2 := Lib.hid h2
  have HAW := Lib.hid awake_any
  unfold LawE at HAW ⊢
  have awk : Hid (∀ W, Below w.heap.size w W → Calls Tryz.prog 14 #[] W fun e w' => e = .returned (.bool true) ∧ Below w.heap.size w w') := fun W hW => (HAW.out W).mono fun e w' ⟨h1, h2⟩ => ⟨h1, hW.trans (h2.mono hW.size)⟩
  have HB : Hid (Below w.heap.size w w) := Below.refl _ _
  have HK1 := Lib.hid k1; have HK2 := Lib.hid k2; have HS1 := Lib.hid s1; have HS2 := Lib.hid s2
  clear h1 h2 s1 s2 k1 k2
  obtain ⟨d1, d2⟩ := d
  simp only [digV]
  obtain ⟨W0, hW0⟩ : ∃ W, w.alloc (.cells #[.int .u64 d1, .int .u64 d2] 30) = W := ⟨_, rfl⟩
  have hb : Below w.heap.size w W0 := by rw [← hW0]; exact (Below.refl _ w).alloc (Nat.le_refl _) _
  have HR : Hid (Bk W0 w.heap.size 30 #[.int .u64 d1, .int .u64 d2]) := by rw [← hW0]; exact Bk.new w _ _
  replace HB : Hid (Below w.heap.size w W0) := HB.out.trans (hb.mono HB.out.size)
  replace H1 := Lib.hid (sl_on H1.out hb)
  replace H2 := Lib.hid (sl_on H2.out hb)
  clear hb
  have HW0 := Lib.hid hW0
  clear hW0
  have HV := Lib.hid (valid9_any A1 n1 c1 ps W0 H1.out (Nat.le_trans HK1.out HK2.out) HS1.out)
  unfold Vl9End at HV
  go_enter Tryz.func5, Tryz.ntmps5
  go_wp2_with fail
  rw [HW0.out]
  refine HV.out.mono ?_
  rintro e w1 ⟨r, rfl, hr, hb⟩
  have HVV := Lib.hid hr
  replace HB : Hid (Below w.heap.size w w1) := HB.out.trans (hb.mono HB.out.size)
  replace H1 := Lib.hid (sl_on H1.out hb)
  replace H2 := Lib.hid (sl_on H2.out hb)
  replace HR := Lib.hid (HR.out.below hb HR.out.lt)
  clear hb
  clear hr HV HW0
  cases r with
  | false =>
    clear HVV
    go_wp2_with fail
    refine (awk.out _ (HB.out)).mono ?_
    rintro e wz ⟨rfl, hb⟩
    have HBZ := Lib.hid hb; clear hb
    go_wp2_with fail
    go_ret
    exact ⟨rfl, HBZ.out⟩
  | true =>
    obtain ⟨hn1, hsz, hpl⟩ := HVV.out rfl
    have HPL := Lib.hid hpl
    have HSZ : Hid (∀ i ∈ ps, i.2.size ≤ 60000) := fun i hi => Nat.le_trans (hsz i hi) (by omega)
    have HSM : Hid (SmP ps) := HSZ.out
    have HG := Lib.hid (great9_any A2 n2 c2 w1.heap.size fs w1 H2.out m2 HS2.out)
    unfold Gr9End at HG
    clear hsz hpl HVV
    go_wp2_with fail
    refine HG.out.mono ?_
    rintro e w1' ⟨r, rfl, hr, rfl⟩
    have HGR := Lib.hid hr
    clear hr HG
    cases r with
    | true =>
      clear HGR
      go_wp2_with fail
      refine (awk.out _ (HB.out)).mono ?_
      rintro e wz ⟨rfl, hb⟩
      have HBZ := Lib.hid hb; clear hb
      go_wp2_with fail
      go_ret
      exact ⟨rfl, HBZ.out⟩
    | false =>
      obtain ⟨hn2, hf2⟩ := HGR.out rfl
      have HF2 := Lib.hid hf2
      have HFS : Hid (∀ f ∈ fs, f.1.size ≤ 1000000 ∧ f.2.size ≤ 60000) := fun f hf => ⟨by have := (HF2.out f hf).1; omega, by have := (HF2.out f hf).2; omega⟩
      clear hf2 HGR
      have HST := Lib.hid (tstore_any A1 n1 c1 w1.heap.size ps A2 n2 c2 fs w1 H1.out H2.out (Nat.le_refl _) HK1.out HK2.out (by omega) (by omega) HPL.out HFS.out)
      go_wp2_with fail
      refine HST.out.mono ?_
      rintro e w2 hst
      obtain ⟨hst, hb⟩ := hst
      replace HB : Hid (Below w.heap.size w w2) := HB.out.trans (hb.mono HB.out.size)
      replace H1 := Lib.hid (sl_on H1.out hb)
      replace H2 := Lib.hid (sl_on H2.out hb)
      replace HR := Lib.hid (HR.out.below hb HR.out.lt)
      clear hb
      clear HST
      have HLE : Hid (ps.length ≤ 40) := by show _ ≤ _; rw [H1.out.len itC_len (by omega)]; exact hn1
      rcases hst with ⟨z, ht, hz, rfl⟩ | ⟨ht, ⟨q, ⟨e1, e2⟩, A3, c3, hsto, hsr, rfl, hsl, _, _⟩ | ⟨_, rfl⟩⟩
      · have HT := Lib.hid ht
        have t1 : (z == 0) = false := by rw [beq_eq_false_iff_ne]; exact hz
        clear ht hz
        simp only [digV, zD]
        obtain ⟨W3, hW3⟩ : ∃ W, w2.alloc (.cells #[.int .u64 0, .int .u64 0] 30) = W := ⟨_, rfl⟩
        have hb : Below w2.heap.size w2 W3 := by rw [← hW3]; exact (Below.refl _ w2).alloc (Nat.le_refl _) _
        replace HB : Hid (Below w.heap.size w W3) := HB.out.trans (hb.mono HB.out.size)
        replace H1 := Lib.hid (sl_on H1.out hb)
        replace H2 := Lib.hid (sl_on H2.out hb)
        replace HR := Lib.hid (HR.out.below hb HR.out.lt)
        clear hb
        have HW3 := Lib.hid hW3
        clear hW3
        have HC := Lib.hid (tcheck_any A2 n2 c2 W3.heap.size fs W3 H2.out (Nat.le_refl _) (by omega) HFS.out)
        go_wp2_with fail
        rw [HW3.out]
        refine HC.out.mono ?_
        rintro e w4 ⟨er, rfl, her, hb⟩
        obtain rfl : er = z := TckR.same her HT.out
        replace HB : Hid (Below w.heap.size w w4) := HB.out.trans (hb.mono HB.out.size)
        replace H1 := Lib.hid (sl_on H1.out hb)
        replace HR := Lib.hid (HR.out.below hb HR.out.lt)
        clear hb
        clear her HC HW3
        have HC := Lib.hid (tload_any A1 n1 c1 w4.heap.size ps (d1, d2) w4 H1.out (Nat.le_refl _) (by omega) HPL.out)
        simp only [digV] at HC
        obtain ⟨x0, x1, _, _⟩ := HR.out.two
        go_wp2_with fail
        refine HC.out.mono ?_
        rintro e w9 hst
        obtain ⟨hst, hb⟩ := lod_of HPL.out HSZ.out hst
        replace HB : Hid (Below w.heap.size w w9) := HB.out.trans (hb.mono HB.out.size)
        replace H1 := Lib.hid (sl_on H1.out hb)
        replace HR := Lib.hid (HR.out.below hb HR.out.lt)
        clear hb
        clear HC x0 x1
        rcases hst with ⟨z, hz, rfl⟩ | ⟨ms, A5, c5, hld, hok, hasc, hstd, rfl, hsl⟩
        case inl =>
          have t1 : (z != 0) = true := by rw [bne_iff_ne]; exact hz
          clear hz
          go_wp2_with fail
          refine (awk.out _ (HB.out)).mono ?_
          rintro e wz ⟨rfl, hb⟩
          have HBZ := Lib.hid hb; clear hb
          go_wp2_with fail
          go_ret
          exact ⟨rfl, HBZ.out⟩
        case inr =>
          have HOK := Lib.hid hok; have HASC := Lib.hid hasc; have HSTD := Lib.hid hstd
          have HM := Lib.hid hsl
          have hml : ms.length ≤ 200 := hok.few
          clear hld hok hasc hstd hsl
          have HMS : Hid (∀ f ∈ ms, f.1.size ≤ 1000000 ∧ f.2.size ≤ 60000) := fun f hf => ⟨by have := path_len (HOK.out.path f hf); omega, HOK.out.data f hf⟩
          have HST := Lib.hid (tstore_any A1 n1 c1 w9.heap.size ps A5 ms.length c5 ms w9 H1.out HM.out (Nat.le_refl _) HK1.out HK2.out (by omega) (by omega) HPL.out HMS.out)
          go_wp2_with fail
          refine HST.out.mono ?_
          rintro e w10 hst
          obtain ⟨⟨A6, c6, rfl⟩, hb⟩ := str_again HPL.out HOK.out HASC.out HSTD.out hst
          replace HB : Hid (Below w.heap.size w w10) := HB.out.trans (hb.mono HB.out.size)
          replace HR := Lib.hid (HR.out.below hb HR.out.lt)
          replace HM := Lib.hid (sl_on HM.out hb)
          clear hb
          clear HST
          simp only [digV]
          obtain ⟨W11, hW11⟩ : ∃ W, w10.alloc (.cells #[.int .u64 d1, .int .u64 d2] 30) = W := ⟨_, rfl⟩
          have hb : Below w10.heap.size w10 W11 := by rw [← hW11]; exact (Below.refl _ w10).alloc (Nat.le_refl _) _
          have HX : Hid (Bk W11 w10.heap.size 30 #[.int .u64 d1, .int .u64 d2]) := by rw [← hW11]; exact Bk.new w10 _ _
          replace HB : Hid (Below w.heap.size w W11) := HB.out.trans (hb.mono HB.out.size)
          replace HR := Lib.hid (HR.out.below hb HR.out.lt)
          replace HM := Lib.hid (sl_on HM.out hb)
          clear hb
          have HW11 := Lib.hid hW11
          clear hW11
          have HC := Lib.hid (tcheck_any A5 ms.length c5 W11.heap.size ms W11 HM.out (Nat.le_refl _) (by omega) HMS.out)
          obtain ⟨x0, x1, _, _⟩ := HR.out.two
          obtain ⟨y0, y1, _, _⟩ := HX.out.two
          rw [← HW11.out] at x0 x1 y0 y1
          have hdd : (d1 == d1 && d2 == d2) = true := by simp
          go_wp2_with fail
          rw [HW11.out]
          refine HC.out.mono ?_
          rintro e w12 ⟨er, rfl, her, hb⟩
          obtain rfl : er = 0 := TckR.same her (ck_back HOK.out HASC.out)
          replace HB : Hid (Below w.heap.size w w12) := HB.out.trans (hb.mono HB.out.size)
          clear hb
          clear her HC HW11 x0 x1 y0 y1
          go_wp2_with fail
          refine (awk.out _ (HB.out)).mono ?_
          rintro e wz ⟨rfl, hb⟩
          have HBZ := Lib.hid hb; clear hb
          go_wp2_with fail
          go_ret
          exact ⟨rfl, HBZ.out⟩
      · have HT := Lib.hid ht
        obtain ⟨hok, hasc⟩ := ck_ok ht (fun f hf => (HFS.out f hf).2)
        obtain ⟨hstd, hpq, _⟩ := sto_std 101 ps fs q (e1, e2) hok HPL.out hsto
        have HPQ := Lib.hid hpq
        have HLD : Hid (LdSeq q (e1, e2) fs) := std_load hpq hok hstd hasc
        have hq7 : q.length ≤ 30000 := by
          have h1 := hsr.len
          have h2 := wt_ok hok
          have h3 := HLE.out
          omega
        have HQ := Lib.hid hsl
        clear ht hok hasc hstd hpq hsto hsr hsl
        simp only [digV]
        obtain ⟨W3, hW3⟩ : ∃ W, w2.alloc (.cells #[.int .u64 e1, .int .u64 e2] 30) = W := ⟨_, rfl⟩
        have hb : Below w2.heap.size w2 W3 := by rw [← hW3]; exact (Below.refl _ w2).alloc (Nat.le_refl _) _
        have HK : Hid (Bk W3 w2.heap.size 30 #[.int .u64 e1, .int .u64 e2]) := by rw [← hW3]; exact Bk.new w2 _ _
        replace HB : Hid (Below w.heap.size w W3) := HB.out.trans (hb.mono HB.out.size)
        replace H1 := Lib.hid (sl_on H1.out hb)
        replace H2 := Lib.hid (sl_on H2.out hb)
        replace HR := Lib.hid (HR.out.below hb HR.out.lt)
        replace HQ := Lib.hid (sl_on HQ.out hb)
        clear hb
        have HW3 := Lib.hid hW3
        clear hW3
        have HC := Lib.hid (tcheck_any A2 n2 c2 W3.heap.size fs W3 H2.out (Nat.le_refl _) (by omega) HFS.out)
        go_wp2_with fail
        rw [HW3.out]
        refine HC.out.mono ?_
        rintro e w4 ⟨er, rfl, her, hb⟩
        obtain rfl : er = 0 := TckR.same her HT.out
        replace HB : Hid (Below w.heap.size w w4) := HB.out.trans (hb.mono HB.out.size)
        replace H1 := Lib.hid (sl_on H1.out hb)
        replace H2 := Lib.hid (sl_on H2.out hb)
        replace HR := Lib.hid (HR.out.below hb HR.out.lt)
        replace HQ := Lib.hid (sl_on HQ.out hb)
        replace HK := Lib.hid (HK.out.below hb HK.out.lt)
        clear hb
        clear her HC HW3
        have HC := Lib.hid (tload_any A3 q.length c3 w4.heap.size q (e1, e2) w4 HQ.out (Nat.le_refl _) (by omega) HPQ.out)
        simp only [digV] at HC
        obtain ⟨x0, x1, _, _⟩ := HK.out.two
        go_wp2_with fail
        refine HC.out.mono ?_
        rintro e w5 hst
        obtain ⟨⟨A4, c4, rfl, hsl⟩, hb⟩ := lod_std HLD.out hst
        have HM := Lib.hid hsl
        replace HB : Hid (Below w.heap.size w w5) := HB.out.trans (hb.mono HB.out.size)
        replace H1 := Lib.hid (sl_on H1.out hb)
        replace H2 := Lib.hid (sl_on H2.out hb)
        replace HR := Lib.hid (HR.out.below hb HR.out.lt)
        replace HQ := Lib.hid (sl_on HQ.out hb)
        clear hb
        clear HC hsl x0 x1 HK
        have HC := Lib.hid (same9B_any A2 A4 n2 c2 fs.length c4 w5.heap.size fs fs w5 H2.out HM.out (by unfold maxLen; omega))
        rw [decide_eq_true rfl] at HC
        go_wp2_with fail
        refine HC.out.mono ?_
        rintro e w6 ⟨rfl, hb⟩
        replace HB : Hid (Below w.heap.size w w6) := HB.out.trans (hb.mono HB.out.size)
        replace H1 := Lib.hid (sl_on H1.out hb)
        replace HR := Lib.hid (HR.out.below hb HR.out.lt)
        replace HQ := Lib.hid (sl_on HQ.out hb)
        clear hb
        clear HC HM H2
        have HC := Lib.hid (pcheck_any A3 q.length c3 w6.heap.size q w6 HQ.out (Nat.le_refl _) (by omega) HPQ.out)
        go_wp2_with fail
        refine HC.out.mono ?_
        rintro e w7 ⟨rfl, hb⟩
        replace HB : Hid (Below w.heap.size w w7) := HB.out.trans (hb.mono HB.out.size)
        replace H1 := Lib.hid (sl_on H1.out hb)
        replace HR := Lib.hid (HR.out.below hb HR.out.lt)
        clear hb
        clear HC HQ
        have HC := Lib.hid (tload_any A1 n1 c1 w7.heap.size ps (d1, d2) w7 H1.out (Nat.le_refl _) (by omega) HPL.out)
        simp only [digV] at HC
        obtain ⟨x0, x1, _, _⟩ := HR.out.two
        go_wp2_with fail
        refine HC.out.mono ?_
        rintro e w9 hst
        obtain ⟨hst, hb⟩ := lod_of HPL.out HSZ.out hst
        replace HB : Hid (Below w.heap.size w w9) := HB.out.trans (hb.mono HB.out.size)
        replace H1 := Lib.hid (sl_on H1.out hb)
        replace HR := Lib.hid (HR.out.below hb HR.out.lt)
        clear hb
        clear HC x0 x1
        rcases hst with ⟨z, hz, rfl⟩ | ⟨ms, A5, c5, hld, hok, hasc, hstd, rfl, hsl⟩
        case inl =>
          have t1 : (z != 0) = true := by rw [bne_iff_ne]; exact hz
          clear hz
          go_wp2_with fail
          refine (awk.out _ (HB.out)).mono ?_
          rintro e wz ⟨rfl, hb⟩
          have HBZ := Lib.hid hb; clear hb
          go_wp2_with fail
          go_ret
          exact ⟨rfl, HBZ.out⟩
        case inr =>
          have HOK := Lib.hid hok; have HASC := Lib.hid hasc; have HSTD := Lib.hid hstd
          have HM := Lib.hid hsl
          have hml : ms.length ≤ 200 := hok.few
          clear hld hok hasc hstd hsl
          have HMS : Hid (∀ f ∈ ms, f.1.size ≤ 1000000 ∧ f.2.size ≤ 60000) := fun f hf => ⟨by have := path_len (HOK.out.path f hf); omega, HOK.out.data f hf⟩
          have HST := Lib.hid (tstore_any A1 n1 c1 w9.heap.size ps A5 ms.length c5 ms w9 H1.out HM.out (Nat.le_refl _) HK1.out HK2.out (by omega) (by omega) HPL.out HMS.out)
          go_wp2_with fail
          refine HST.out.mono ?_
          rintro e w10 hst
          obtain ⟨⟨A6, c6, rfl⟩, hb⟩ := str_again HPL.out HOK.out HASC.out HSTD.out hst
          replace HB : Hid (Below w.heap.size w w10) := HB.out.trans (hb.mono HB.out.size)
          replace HR := Lib.hid (HR.out.below hb HR.out.lt)
          replace HM := Lib.hid (sl_on HM.out hb)
          clear hb
          clear HST
          simp only [digV]
          obtain ⟨W11, hW11⟩ : ∃ W, w10.alloc (.cells #[.int .u64 d1, .int .u64 d2] 30) = W := ⟨_, rfl⟩
          have hb : Below w10.heap.size w10 W11 := by rw [← hW11]; exact (Below.refl _ w10).alloc (Nat.le_refl _) _
          have HX : Hid (Bk W11 w10.heap.size 30 #[.int .u64 d1, .int .u64 d2]) := by rw [← hW11]; exact Bk.new w10 _ _
          replace HB : Hid (Below w.heap.size w W11) := HB.out.trans (hb.mono HB.out.size)
          replace HR := Lib.hid (HR.out.below hb HR.out.lt)
          replace HM := Lib.hid (sl_on HM.out hb)
          clear hb
          have HW11 := Lib.hid hW11
          clear hW11
          have HC := Lib.hid (tcheck_any A5 ms.length c5 W11.heap.size ms W11 HM.out (Nat.le_refl _) (by omega) HMS.out)
          obtain ⟨x0, x1, _, _⟩ := HR.out.two
          obtain ⟨y0, y1, _, _⟩ := HX.out.two
          rw [← HW11.out] at x0 x1 y0 y1
          have hdd : (d1 == d1 && d2 == d2) = true := by simp
          go_wp2_with fail
          rw [HW11.out]
          refine HC.out.mono ?_
          rintro e w12 ⟨er, rfl, her, hb⟩
          obtain rfl : er = 0 := TckR.same her (ck_back HOK.out HASC.out)
          replace HB : Hid (Below w.heap.size w w12) := HB.out.trans (hb.mono HB.out.size)
          clear hb
          clear her HC HW11 x0 x1 y0 y1
          go_wp2_with fail
          refine (awk.out _ (HB.out)).mono ?_
          rintro e wz ⟨rfl, hb⟩
          have HBZ := Lib.hid hb; clear hb
          go_wp2_with fail
          go_ret
          exact ⟨rfl, HBZ.out⟩
      · have HT := Lib.hid ht
        clear ht
        simp only [digV, zD]
        obtain ⟨W3, hW3⟩ : ∃ W, w2.alloc (.cells #[.int .u64 0, .int .u64 0] 30) = W := ⟨_, rfl⟩
        have hb : Below w2.heap.size w2 W3 := by rw [← hW3]; exact (Below.refl _ w2).alloc (Nat.le_refl _) _
        replace HB : Hid (Below w.heap.size w W3) := HB.out.trans (hb.mono HB.out.size)
        replace H1 := Lib.hid (sl_on H1.out hb)
        replace H2 := Lib.hid (sl_on H2.out hb)
        replace HR := Lib.hid (HR.out.below hb HR.out.lt)
        clear hb
        have HW3 := Lib.hid hW3
        clear hW3
        have HC := Lib.hid (tcheck_any A2 n2 c2 W3.heap.size fs W3 H2.out (Nat.le_refl _) (by omega) HFS.out)
        go_wp2_with fail
        rw [HW3.out]
        refine HC.out.mono ?_
        rintro e w4 ⟨er, rfl, her, hb⟩
        obtain rfl : er = 0 := TckR.same her HT.out
        replace HB : Hid (Below w.heap.size w w4) := HB.out.trans (hb.mono HB.out.size)
        replace H1 := Lib.hid (sl_on H1.out hb)
        replace HR := Lib.hid (HR.out.below hb HR.out.lt)
        clear hb
        clear her HC HW3
        have HC := Lib.hid (tload_any A1 n1 c1 w4.heap.size ps (d1, d2) w4 H1.out (Nat.le_refl _) (by omega) HPL.out)
        simp only [digV] at HC
        obtain ⟨x0, x1, _, _⟩ := HR.out.two
        go_wp2_with fail
        refine HC.out.mono ?_
        rintro e w9 hst
        obtain ⟨hst, hb⟩ := lod_of HPL.out HSZ.out hst
        replace HB : Hid (Below w.heap.size w w9) := HB.out.trans (hb.mono HB.out.size)
        replace H1 := Lib.hid (sl_on H1.out hb)
        replace HR := Lib.hid (HR.out.below hb HR.out.lt)
        clear hb
        clear HC x0 x1
        rcases hst with ⟨z, hz, rfl⟩ | ⟨ms, A5, c5, hld, hok, hasc, hstd, rfl, hsl⟩
        case inl =>
          have t1 : (z != 0) = true := by rw [bne_iff_ne]; exact hz
          clear hz
          go_wp2_with fail
          refine (awk.out _ (HB.out)).mono ?_
          rintro e wz ⟨rfl, hb⟩
          have HBZ := Lib.hid hb; clear hb
          go_wp2_with fail
          go_ret
          exact ⟨rfl, HBZ.out⟩
        case inr =>
          have HOK := Lib.hid hok; have HASC := Lib.hid hasc; have HSTD := Lib.hid hstd
          have HM := Lib.hid hsl
          have hml : ms.length ≤ 200 := hok.few
          clear hld hok hasc hstd hsl
          have HMS : Hid (∀ f ∈ ms, f.1.size ≤ 1000000 ∧ f.2.size ≤ 60000) := fun f hf => ⟨by have := path_len (HOK.out.path f hf); omega, HOK.out.data f hf⟩
          have HST := Lib.hid (tstore_any A1 n1 c1 w9.heap.size ps A5 ms.length c5 ms w9 H1.out HM.out (Nat.le_refl _) HK1.out HK2.out (by omega) (by omega) HPL.out HMS.out)
          go_wp2_with fail
          refine HST.out.mono ?_
          rintro e w10 hst
          obtain ⟨⟨A6, c6, rfl⟩, hb⟩ := str_again HPL.out HOK.out HASC.out HSTD.out hst
          replace HB : Hid (Below w.heap.size w w10) := HB.out.trans (hb.mono HB.out.size)
          replace HR := Lib.hid (HR.out.below hb HR.out.lt)
          replace HM := Lib.hid (sl_on HM.out hb)
          clear hb
          clear HST
          simp only [digV]
          obtain ⟨W11, hW11⟩ : ∃ W, w10.alloc (.cells #[.int .u64 d1, .int .u64 d2] 30) = W := ⟨_, rfl⟩
          have hb : Below w10.heap.size w10 W11 := by rw [← hW11]; exact (Below.refl _ w10).alloc (Nat.le_refl _) _
          have HX : Hid (Bk W11 w10.heap.size 30 #[.int .u64 d1, .int .u64 d2]) := by rw [← hW11]; exact Bk.new w10 _ _
          replace HB : Hid (Below w.heap.size w W11) := HB.out.trans (hb.mono HB.out.size)
          replace HR := Lib.hid (HR.out.below hb HR.out.lt)
          replace HM := Lib.hid (sl_on HM.out hb)
          clear hb
          have HW11 := Lib.hid hW11
          clear hW11
          have HC := Lib.hid (tcheck_any A5 ms.length c5 W11.heap.size ms W11 HM.out (Nat.le_refl _) (by omega) HMS.out)
          obtain ⟨x0, x1, _, _⟩ := HR.out.two
          obtain ⟨y0, y1, _, _⟩ := HX.out.two
          rw [← HW11.out] at x0 x1 y0 y1
          have hdd : (d1 == d1 && d2 == d2) = true := by simp
          go_wp2_with fail
          rw [HW11.out]
          refine HC.out.mono ?_
          rintro e w12 ⟨er, rfl, her, hb⟩
          obtain rfl : er = 0 := TckR.same her (ck_back HOK.out HASC.out)
          replace HB : Hid (Below w.heap.size w w12) := HB.out.trans (hb.mono HB.out.size)
          clear hb
          clear her HC HW11 x0 x1 y0 y1
          go_wp2_with fail
          refine (awk.out _ (HB.out)).mono ?_
          rintro e wz ⟨rfl, hb⟩
          have HBZ := Lib.hid hb; clear hb
          go_wp2_with fail
          go_ret
          exact ⟨rfl, HBZ.out⟩
end Go.Proofs.YtmdhlkkekidknaaGreatDoor

namespace Go.Proofs.YtmdhlkkekidknaaGreatDoor
open Go.ChangeShapes Go.WideShapes Go.ChangeAt Go.RowKit Go.Joins Go.Deep

theorem cellsU64 : Tryz.prog.cellsOf 28 = 1 := by kernel_rfl
theorem cellsDg : Tryz.prog.cellsOf 30 = 2 := by kernel_rfl
theorem cellsIt : Tryz.prog.cellsOf 38 = 3 := by kernel_rfl
theorem okWide_array {P : Program} {w : World} {r : Reach} {base n : Nat} {t e : TypeId} {v : Value} (ht : P.underlying t = some (.array n e)) (h : Value.okWide P w r base t v) : ∃ cs, v = .agg cs ∧ cs.size = P.cellsOf t := by
  simp only [Value.okWide, ht] at h
  obtain ⟨cs, h1, h2, _⟩ := h
  exact ⟨cs, h1, h2⟩
section
variable {H : Type} {enc : TypeId × Value → H} {P : Program} {w : World} {base : Nat} {spare : Nat → Bool} {held : Bool} {fuel : Nat} {cs : List Value} {x : DataW H × List MemPlace}
theorem trod_dgP {t s : TypeId} (ht : P.underlying t = some (.array 2 s)) (hs : P.underlying s = some (.int .u64))
    (hC : P.cellsOf t = 2) (hcs : P.cellsOf s = 1) (h : DataW.trod enc P w base spare held fuel t cs = some x) : ∃ d : Dig, cs = dgC d ∧ WfD d := by
  obtain ⟨xs, m, _, _, hlen, hxl, hf⟩ := DataW.trod_array ht h
  rw [hC] at hlen
  obtain ⟨c0, c1, rfl⟩ := len2 hlen
  obtain ⟨y0, y1, rfl⟩ := len2 hxl
  have h0 := hf 0 (by omega)
  have h1 := hf 1 (by omega)
  rw [hcs] at h0 h1
  simp at h0 h1
  obtain ⟨a, ha, _, hz⟩ := DataW.trod_int hs h0
  obtain ⟨b, hb, _, hz2⟩ := DataW.trod_int hs h1
  simp at ha hb
  obtain ⟨w1, w2⟩ := bounds_u64 hz
  obtain ⟨w3, w4⟩ := bounds_u64 hz2
  exact ⟨(a, b), by rw [ha, hb]; rfl, ⟨w1, by omega, w3, by omega⟩⟩
theorem trod_itP {t e s u : TypeId} {f0 f1 : Field} (ht : P.underlying t = some (.struct #[f0, f1])) (o0 : f0.offset = 0) (o1 : f1.offset = 2) (t0 : f0.type = e) (t1 : f1.type = s)
    (he : P.underlying e = some (.array 2 u)) (hu : P.underlying u = some (.int .u64)) (hs : P.underlying s = some .string)
    (hC : P.cellsOf t = 3) (hce : P.cellsOf e = 2) (hcu : P.cellsOf u = 1) (hcs : P.cellsOf s = 1) (h : DataW.trod enc P w base spare held fuel t cs = some x) : ∃ i : Itm, cs = itC i ∧ WfD i.1 ∧ i.2.size ≤ maxLen := by
  obtain ⟨xs, m, _, _, hlen, hxl, hf⟩ := DataW.trod_struct ht h
  rw [hC] at hlen
  obtain ⟨c0, c1, c2, rfl⟩ := len3 hlen
  obtain ⟨y0, y1, rfl⟩ := len2 hxl
  have h0 := hf 0 f0 rfl
  have h1 := hf 1 f1 rfl
  rw [o0, t0, hce] at h0
  rw [o1, t1, hcs] at h1
  simp at h0 h1
  obtain ⟨d, hd, hw⟩ := trod_dgP he hu hce hcu h0
  obtain ⟨b, hb, _, hz⟩ := DataW.trod_string hs h1
  simp [dgC] at hd hb
  exact ⟨(d, b), by rw [hd.1, hd.2, hb]; rfl, hw, hz⟩
end
section
variable {H : Type} {enc : TypeId × Value → H} {W : World} {base : Nat} {v : Value} {d : DataW H} {p : List MemPlace} {r : Reach} {b0 : Nat} {sp : Nat → Bool} {held : Bool}
set_option maxRecDepth 100000 in
theorem open_dig (hv : Value.okWide Tryz.prog W r b0 30 v) (h : DataW.Trod enc Tryz.prog W base sp held 30 v d p) : ∃ q : Dig, v = digV q ∧ WfD q := by
  obtain ⟨cs, rfl, hsz⟩ := okWide_array Tryz.underlying30 hv
  obtain ⟨fuel, hf⟩ := h
  obtain ⟨q, he, hw⟩ := trod_dgP Tryz.underlying30 Tryz.underlying28 cellsDg cellsU64 hf
  have : cs.toList = dgC q := he
  exact ⟨q, by rw [show cs = #[.int .u64 q.1, .int .u64 q.2] by rw [← Array.toArray_toList (xs := cs), this]; rfl]; rfl, hw⟩
set_option maxRecDepth 100000 in
theorem open_pool (hv : Value.okWide Tryz.prog W r b0 23 v) (h : DataW.Trod enc Tryz.prog W base sp held 23 v d p) : ∃ A n c is, v = .slice A n c ∧ Sl W W.heap.size 3 A n (flat itC is) ∧ n ≤ c ∧ c ≤ maxLen ∧ ∀ i ∈ is, WfD i.1 ∧ i.2.size ≤ maxLen := by
  obtain ⟨A, n, c, rfl⟩ := okWide_slice Tryz.underlying23 hv
  obtain ⟨fuel, hf⟩ := h
  obtain ⟨A', n', c', us, he, h1, h2, h3, h4⟩ := trod_slP (encA := itC) (Q := fun i => WfD i.1 ∧ i.2.size ≤ maxLen) Tryz.underlying23 cellsIt (by omega) itC_len (fun _ _ _ hh => trod_itP Tryz.underlying38 rfl rfl rfl rfl Tryz.underlying30 Tryz.underlying28 Tryz.underlying9 cellsIt cellsDg cellsU64 cellsStr hh) hf
  refine ⟨A', n', c', us, ?_, h1, h2, h3, h4⟩
  have : [Value.slice A n c] = [Value.slice A' n' c'] := he
  simpa using this
end
end Go.Proofs.YtmdhlkkekidknaaGreatDoor
