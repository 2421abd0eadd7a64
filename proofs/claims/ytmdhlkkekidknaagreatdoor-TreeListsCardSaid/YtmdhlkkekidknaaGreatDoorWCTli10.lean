/-
  Lemmas: tree.checkChange. The reference's Opposite and GreatChanges. The reference's find with its data, Changes and Diff. tree.Patch. tree.Patch: the walk.
-/
import Derived.Deep.QuietTactic
import Derived.BigQuiet
import Derived.Test.YtmdhlkkekidknaaGreatDoorWCTli9
import Derived.Test.YtmdhlkkekidknaaGreatDoorWCTli8
import Derived.Test.YtmdhlkkekidknaaGreatDoorWCTli4
import Derived.Test.YtmdhlkkekidknaaGreatDoorWCTli6

namespace Go.Proofs.YtmdhlkkekidknaaGreatDoor
open Go.RowKit

theorem Sl.fc {w : World} {B n k : Nat} {A : Option Addr} {l : List FCh} (h : Sl w B 5 A n (flat fcC l)) (hk : k < n) :
    ∃ b off x, A = some ⟨b, off, none⟩ ∧ b < B ∧ l[k]? = some x ∧ w.cell? ⟨b, off + k * 5, none⟩ = some (.string x.path) ∧ w.cell? ⟨b, off + k * 5 + 1, none⟩ = some (.bool x.ho) ∧ w.cell? ⟨b, off + k * 5 + 2, none⟩ = some (.bool x.hn) ∧ w.cell? ⟨b, off + k * 5 + 3, none⟩ = some (.string x.old) ∧ w.cell? ⟨b, off + k * 5 + 4, none⟩ = some (.string x.new) := by
  obtain ⟨b, off, x, e, hb, hx, hc⟩ := h.at_ fcC_len (by omega) hk
  exact ⟨b, off, x, e, hb, hx, hc 0 _ rfl, hc 1 _ rfl, hc 2 _ rfl, hc 3 _ rfl, hc 4 _ rfl⟩
set_option maxRecDepth 100000 in
set_option maxHeartbeats 16000000 in
theorem ckc_any (A1 A2 : Option Addr) (m c1 n c2 B j : Nat) (l : List Fl) (c : List FCh) (x : FCh) (w : World) (h1 : Sl w B 2 A1 m (flat flC l)) (h2 : Sl w B 5 A2 n (flat fcC c)) (hB : B ≤ w.heap.size) (hm : m ≤ 1000000) (hn : n ≤ 1000000) (ha : AscF l) (hx : c[j]? = some x) (hsz : x.path.size ≤ 1000000) :
    Calls Tryz.prog 80 #[.slice A1 m c1, .slice A2 n c2, .int .i64 (j : Int)] w fun e w' => e = .returned (.int .i64 (ckC l (prevC c j) x)) ∧ Below w.heap.size w w' := by
  have hlc := h2.len fcC_len (by omega)
  have hjn : j < n := by have := (List.getElem?_eq_some_iff.1 hx).1; omega
  have HX := Lib.hid hx; have HA := Lib.hid ha; have H1 := Lib.hid h1; have H2 := Lib.hid h2
  obtain ⟨b2, off2, x', rfl, hb2, hx', c0, c1', c2', c3, c4⟩ := h2.fc hjn
  rw [hx] at hx'
  injection hx' with hx'
  subst hx'
  obtain ⟨R, hR⟩ : ∃ R, ckC l (prevC c j) x = R := ⟨_, rfl⟩
  rw [hR]
  have HR := Lib.hid hR
  clear hx ha h1 h2 hR
  obtain ⟨s, ho, hn', old, new⟩ := x
  simp only at c0 c1' c2' c3 c4 hsz
  obtain ⟨W, hW⟩ : ∃ W, w.alloc (.cells #[.string s, .bool ho, .bool hn', .string old, .string new] 112) = W := ⟨_, rfl⟩
  have HB0 : Hid (Below w.heap.size w W) := by rw [← hW]; exact (Below.refl _ w).alloc (Nat.le_refl _) _
  have HK0 : Hid (Bk W w.heap.size 112 #[.string s, .bool ho, .bool hn', .string old, .string new]) := by rw [← hW]; exact Bk.new w _ _
  have HP := Lib.hid (isPath_any s W (by unfold maxLen; omega))
  obtain ⟨pb, hpb⟩ : ∃ pb, pathB s = pb := ⟨_, rfl⟩
  rw [hpb] at HP
  have HPB := Lib.hid hpb
  have HW := Lib.hid hW
  clear hpb hW
  go_enter Tryz.func80, Tryz.ntmps80
  go_wp2_with fail
  rw [HW.out]
  refine HP.out.mono ?_
  rintro e w1 ⟨rfl, hb⟩
  have HB1 : Hid (Below w.heap.size w w1) := HB0.out.trans (hb.mono HB0.out.size)
  have HK1 := Lib.hid (HK0.out.below hb HK0.out.lt)
  have zk : w.heap.size < w1.heap.size := HK1.out.lt
  clear hb HP HK0 HB0 HW c0 c1' c2' c3 c4
  cases pb with
  | false =>
    have HE : Hid (R = 6) := by show _ = _; rw [← HR.out]; unfold ckC; rw [if_pos HPB.out]
    go_wp2_with fail
    go_ret
    exact ⟨by rw [HE.out]; rfl, HB1.out⟩
  | true =>
    have HE : Hid (R = if badC ⟨s, ho, hn', old, new⟩ = true then 1 else if ordC (prevC c j) ⟨s, ho, hn', old, new⟩ = false then 10 else if (lookF9 l s).isSome ≠ ho ∨ (lookF9 l s).getD eB ≠ old then 17 else 0) := by
      show _ = _
      rw [← HR.out]; unfold ckC; rw [if_neg (by rw [HPB.out]; simp)]
    obtain ⟨y0, y1, y2, y3, y4⟩ : w1.cell? ⟨w.heap.size, 0, none⟩ = some (.string s) ∧ w1.cell? ⟨w.heap.size, 1, none⟩ = some (.bool ho) ∧ w1.cell? ⟨w.heap.size, 2, none⟩ = some (.bool hn') ∧ w1.cell? ⟨w.heap.size, 3, none⟩ = some (.string old) ∧ w1.cell? ⟨w.heap.size, 4, none⟩ = some (.string new) := ⟨HK1.out.cell 0, HK1.out.cell 1, HK1.out.cell 2, HK1.out.cell 3, HK1.out.cell 4⟩
    cases ho
    case false =>
      cases hn'
      case false =>
        go_wp2_with fail
        go_ret
        exact ⟨by rw [HE.out]; rfl, HB1.out⟩
      case true =>
        by_cases ho' : old = eB
        · have e1 : old.toList.isEmpty = true := by rw [ho', ByteArray.toList_eq]; rfl
          have HE2 : Hid (badC ⟨s, false, true, old, new⟩ = false) := by show _ = _; unfold badC; simp [ho']
          have HOE := Lib.hid ho'
          clear ho'
          go_wp2_with fail
          by_cases hj : j = 0
          · subst hj
            have HE3 : Hid (R = if (lookF9 l s).isSome ≠ false ∨ (lookF9 l s).getD eB ≠ old then 17 else 0) := by
              have := HE.out; rw [if_neg (by rw [HE2.out]; simp)] at this
              exact this
            go_region
            have HF := Lib.hid (tfind_any A1 m c1 w1.heap.size l s w1.drew (((H1.out.below HB1.out hB).more (Nat.le_trans hB HB1.out.size)).drew) (Nat.le_refl _) hm HA.out)
            unfold TfE at HF
            obtain ⟨ai, hai⟩ : ∃ ai, atF l s = ai := ⟨_, rfl⟩
            rw [hai] at HF
            have HAI := Lib.hid hai
            clear hai
            cases hlk : lookF9 l s with
            | none =>
              rw [hlk] at HF HE3
              simp only [Option.isSome_none] at HF
              clear hlk
              go_wp2_with fail
              refine HF.out.mono ?_
              rintro e w2 ⟨rfl, hb⟩
              have HB2 : Hid (Below w.heap.size w w2) := HB1.out.drew.trans (hb.mono HB1.out.size)
              have HK2 := Lib.hid (HK1.out.drew.below hb zk)
              clear hb HF y0 y1 y2 y3 y4
              obtain ⟨y0, y1, y2, y3, y4⟩ : w2.cell? ⟨w.heap.size, 0, none⟩ = some (.string s) ∧ w2.cell? ⟨w.heap.size, 1, none⟩ = some (.bool false) ∧ w2.cell? ⟨w.heap.size, 2, none⟩ = some (.bool true) ∧ w2.cell? ⟨w.heap.size, 3, none⟩ = some (.string old) ∧ w2.cell? ⟨w.heap.size, 4, none⟩ = some (.string new) := ⟨HK2.out.cell 0, HK2.out.cell 1, HK2.out.cell 2, HK2.out.cell 3, HK2.out.cell 4⟩
              have HE9 : Hid (R = 0) := by show _ = _; rw [HE3.out, if_neg]; simp [HOE.out]
              go_wp2_with fail
              go_region
              go_wp2_with fail
              go_ret
              exact ⟨by rw [HE9.out]; rfl, HB2.out.drew⟩
            | some dd =>
              have HLK := Lib.hid hlk
              rw [hlk] at HF HE3
              simp only [Option.isSome_some] at HF
              clear hlk
              go_wp2_with fail
              refine HF.out.mono ?_
              rintro e w2 ⟨rfl, hb⟩
              have HB2 : Hid (Below w.heap.size w w2) := HB1.out.drew.trans (hb.mono HB1.out.size)
              have HK2 := Lib.hid (HK1.out.drew.below hb zk)
              clear hb HF y0 y1 y2 y3 y4
              obtain ⟨y0, y1, y2, y3, y4⟩ : w2.cell? ⟨w.heap.size, 0, none⟩ = some (.string s) ∧ w2.cell? ⟨w.heap.size, 1, none⟩ = some (.bool false) ∧ w2.cell? ⟨w.heap.size, 2, none⟩ = some (.bool true) ∧ w2.cell? ⟨w.heap.size, 3, none⟩ = some (.string old) ∧ w2.cell? ⟨w.heap.size, 4, none⟩ = some (.string new) := ⟨HK2.out.cell 0, HK2.out.cell 1, HK2.out.cell 2, HK2.out.cell 3, HK2.out.cell 4⟩
              have HE9 : Hid (R = 17) := by show _ = _; rw [HE3.out, if_pos]; simp
              go_wp2_with fail
              go_region
              go_wp2_with fail
              go_ret
              exact ⟨by rw [HE9.out]; rfl, HB2.out.drew⟩
          · obtain ⟨k, rfl⟩ : ∃ k, j = k + 1 := ⟨j - 1, by omega⟩
            obtain ⟨b3, off3, xp, hA3, hb3, hxp, z0, _⟩ := (H2.out.below HB1.out hB).fc (k := k) (by omega)
            injection hA3 with hA3
            injection hA3 with hA3 hA4
            subst hA3; subst hA4
            obtain ⟨prev, r1, r2, r3, r4⟩ := xp
            simp only at z0
            have HPV : Hid (prevC c (k + 1) = some prev) := by
              show _ = _
              unfold prevC; rw [if_neg (by omega), Nat.add_sub_cancel, hxp]; rfl
            have hk1 : IntKind.i64.wrap (k : Int) = (k : Int) := by rw [IntKind.wrap_i64]; omega
            have hkn : k < n := by omega
            obtain ⟨lt, hlt⟩ : ∃ lt, less prev s = lt := ⟨_, rfl⟩
            have HLT := Lib.hid hlt
            clear hxp hlt
            cases lt
            case false =>
              have hl2 : (Op.bytesLess s.toList prev.toList || s.toList == prev.toList) = true := by
                rw [less_str, str_dec]
                cases h : less s prev with
                | true => rfl
                | false => rw [lessB_conn h HLT.out]; simp
              have HE4 : Hid (R = 10) := by
                show _ = _
                rw [HE.out, if_neg (by rw [HE2.out]; simp), if_pos]
                rw [HPV.out]; exact HLT.out
              go_region
              go_wp2_with fail
              go_ret
              exact ⟨by rw [HE4.out]; rfl, HB1.out.drew⟩
            case true =>
              have hl2 : Op.bytesLess s.toList prev.toList = false := by rw [less_str]; exact lessB_asymm HLT.out
              have hl3 : (s.toList == prev.toList) = false := str_ne (fun e => lessB_ne HLT.out e.symm)
              have HE3 : Hid (R = if (lookF9 l s).isSome ≠ false ∨ (lookF9 l s).getD eB ≠ old then 17 else 0) := by
                show _ = _
                rw [HE.out, if_neg (by rw [HE2.out]; simp), if_neg]
                rw [HPV.out]; show ¬ less prev s = false; rw [HLT.out]; simp
              go_region
              have HF := Lib.hid (tfind_any A1 m c1 w1.heap.size l s w1.drew (((H1.out.below HB1.out hB).more (Nat.le_trans hB HB1.out.size)).drew) (Nat.le_refl _) hm HA.out)
              unfold TfE at HF
              obtain ⟨ai, hai⟩ : ∃ ai, atF l s = ai := ⟨_, rfl⟩
              rw [hai] at HF
              have HAI := Lib.hid hai
              clear hai
              cases hlk : lookF9 l s with
              | none =>
                rw [hlk] at HF HE3
                simp only [Option.isSome_none] at HF
                clear hlk
                go_wp2_with fail
                refine HF.out.mono ?_
                rintro e w2 ⟨rfl, hb⟩
                have HB2 : Hid (Below w.heap.size w w2) := HB1.out.drew.trans (hb.mono HB1.out.size)
                have HK2 := Lib.hid (HK1.out.drew.below hb zk)
                clear hb HF y0 y1 y2 y3 y4
                obtain ⟨y0, y1, y2, y3, y4⟩ : w2.cell? ⟨w.heap.size, 0, none⟩ = some (.string s) ∧ w2.cell? ⟨w.heap.size, 1, none⟩ = some (.bool false) ∧ w2.cell? ⟨w.heap.size, 2, none⟩ = some (.bool true) ∧ w2.cell? ⟨w.heap.size, 3, none⟩ = some (.string old) ∧ w2.cell? ⟨w.heap.size, 4, none⟩ = some (.string new) := ⟨HK2.out.cell 0, HK2.out.cell 1, HK2.out.cell 2, HK2.out.cell 3, HK2.out.cell 4⟩
                have HE9 : Hid (R = 0) := by show _ = _; rw [HE3.out, if_neg]; simp [HOE.out]
                go_wp2_with fail
                go_region
                go_wp2_with fail
                go_ret
                exact ⟨by rw [HE9.out]; rfl, HB2.out.drew⟩
              | some dd =>
                have HLK := Lib.hid hlk
                rw [hlk] at HF HE3
                simp only [Option.isSome_some] at HF
                clear hlk
                go_wp2_with fail
                refine HF.out.mono ?_
                rintro e w2 ⟨rfl, hb⟩
                have HB2 : Hid (Below w.heap.size w w2) := HB1.out.drew.trans (hb.mono HB1.out.size)
                have HK2 := Lib.hid (HK1.out.drew.below hb zk)
                clear hb HF y0 y1 y2 y3 y4
                obtain ⟨y0, y1, y2, y3, y4⟩ : w2.cell? ⟨w.heap.size, 0, none⟩ = some (.string s) ∧ w2.cell? ⟨w.heap.size, 1, none⟩ = some (.bool false) ∧ w2.cell? ⟨w.heap.size, 2, none⟩ = some (.bool true) ∧ w2.cell? ⟨w.heap.size, 3, none⟩ = some (.string old) ∧ w2.cell? ⟨w.heap.size, 4, none⟩ = some (.string new) := ⟨HK2.out.cell 0, HK2.out.cell 1, HK2.out.cell 2, HK2.out.cell 3, HK2.out.cell 4⟩
                have HE9 : Hid (R = 17) := by show _ = _; rw [HE3.out, if_pos]; simp
                go_wp2_with fail
                go_region
                go_wp2_with fail
                go_ret
                exact ⟨by rw [HE9.out]; rfl, HB2.out.drew⟩
        · have e1 : old.toList.isEmpty = false := str_emp ho'
          have HE2 : Hid (badC ⟨s, false, true, old, new⟩ = true) := by show _ = _; unfold badC; simp [ho']
          clear ho'
          go_wp2_with fail
          go_ret
          exact ⟨by rw [HE.out, if_pos HE2.out]; rfl, HB1.out⟩
    case true =>
      cases hn'
      case true =>
        have HE2 : Hid (badC ⟨s, true, true, old, new⟩ = false) := by show _ = _; unfold badC; simp
        go_wp2_with fail
        by_cases hj : j = 0
        · subst hj
          have HE3 : Hid (R = if (lookF9 l s).isSome ≠ true ∨ (lookF9 l s).getD eB ≠ old then 17 else 0) := by
            have := HE.out; rw [if_neg (by rw [HE2.out]; simp)] at this
            exact this
          go_region
          have HF := Lib.hid (tfind_any A1 m c1 w1.heap.size l s w1.drew (((H1.out.below HB1.out hB).more (Nat.le_trans hB HB1.out.size)).drew) (Nat.le_refl _) hm HA.out)
          unfold TfE at HF
          obtain ⟨ai, hai⟩ : ∃ ai, atF l s = ai := ⟨_, rfl⟩
          rw [hai] at HF
          have HAI := Lib.hid hai
          clear hai
          cases hlk : lookF9 l s with
          | none =>
            rw [hlk] at HF HE3
            simp only [Option.isSome_none] at HF
            clear hlk
            go_wp2_with fail
            refine HF.out.mono ?_
            rintro e w2 ⟨rfl, hb⟩
            have HB2 : Hid (Below w.heap.size w w2) := HB1.out.drew.trans (hb.mono HB1.out.size)
            have HK2 := Lib.hid (HK1.out.drew.below hb zk)
            clear hb HF y0 y1 y2 y3 y4
            obtain ⟨y0, y1, y2, y3, y4⟩ : w2.cell? ⟨w.heap.size, 0, none⟩ = some (.string s) ∧ w2.cell? ⟨w.heap.size, 1, none⟩ = some (.bool true) ∧ w2.cell? ⟨w.heap.size, 2, none⟩ = some (.bool true) ∧ w2.cell? ⟨w.heap.size, 3, none⟩ = some (.string old) ∧ w2.cell? ⟨w.heap.size, 4, none⟩ = some (.string new) := ⟨HK2.out.cell 0, HK2.out.cell 1, HK2.out.cell 2, HK2.out.cell 3, HK2.out.cell 4⟩
            have HE9 : Hid (R = 17) := by show _ = _; rw [HE3.out, if_pos]; simp
            go_wp2_with fail
            go_region
            go_wp2_with fail
            go_ret
            exact ⟨by rw [HE9.out]; rfl, HB2.out.drew⟩
          | some dd =>
            have HLK := Lib.hid hlk
            rw [hlk] at HF HE3
            simp only [Option.isSome_some] at HF
            clear hlk
            go_wp2_with fail
            refine HF.out.mono ?_
            rintro e w2 ⟨rfl, hb⟩
            have HB2 : Hid (Below w.heap.size w w2) := HB1.out.drew.trans (hb.mono HB1.out.size)
            have HK2 := Lib.hid (HK1.out.drew.below hb zk)
            clear hb HF y0 y1 y2 y3 y4
            obtain ⟨y0, y1, y2, y3, y4⟩ : w2.cell? ⟨w.heap.size, 0, none⟩ = some (.string s) ∧ w2.cell? ⟨w.heap.size, 1, none⟩ = some (.bool true) ∧ w2.cell? ⟨w.heap.size, 2, none⟩ = some (.bool true) ∧ w2.cell? ⟨w.heap.size, 3, none⟩ = some (.string old) ∧ w2.cell? ⟨w.heap.size, 4, none⟩ = some (.string new) := ⟨HK2.out.cell 0, HK2.out.cell 1, HK2.out.cell 2, HK2.out.cell 3, HK2.out.cell 4⟩
            have hal : ai < m := by
              rcases Nat.lt_or_ge ai m with h | h
              · exact h
              · have hlm := H1.out.len flC_len (by omega)
                have := look_end HA.out (s := s) (by rw [HAI.out]; omega)
                rw [HLK.out] at this; cases this
            obtain ⟨b4, off4, f4, hA4, hb4, hf4, q0, q1⟩ := (H1.out.below HB2.out hB).fl hal
            have HFD : Hid (f4.2 = dd) := by
              have := look_at HA.out (s := s) (g := f4) (by rw [HAI.out]; exact hf4)
              rw [HLK.out] at this
              split at this
              · injection this with this; exact this.symm
              · cases this
            rw [HFD.out] at q1
            subst hA4
            clear hf4 q0
            by_cases hdo : dd = old
            · have hdd : (dd.toList == old.toList) = true := by rw [hdo]; simp
              have HE9 : Hid (R = 0) := by show _ = _; rw [HE3.out, if_neg]; simp [hdo]
              clear hdo
              go_wp2_with fail
              go_region
              go_wp2_with fail
              go_ret
              exact ⟨by rw [HE9.out]; rfl, HB2.out.drew⟩
            · have hdd : (dd.toList == old.toList) = false := str_ne hdo
              have HE9 : Hid (R = 17) := by show _ = _; rw [HE3.out, if_pos]; simp [hdo]
              clear hdo
              go_wp2_with fail
              go_region
              go_wp2_with fail
              go_ret
              exact ⟨by rw [HE9.out]; rfl, HB2.out.drew⟩
        · obtain ⟨k, rfl⟩ : ∃ k, j = k + 1 := ⟨j - 1, by omega⟩
          obtain ⟨b3, off3, xp, hA3, hb3, hxp, z0, _⟩ := (H2.out.below HB1.out hB).fc (k := k) (by omega)
          injection hA3 with hA3
          injection hA3 with hA3 hA4
          subst hA3; subst hA4
          obtain ⟨prev, r1, r2, r3, r4⟩ := xp
          simp only at z0
          have HPV : Hid (prevC c (k + 1) = some prev) := by
            show _ = _
            unfold prevC; rw [if_neg (by omega), Nat.add_sub_cancel, hxp]; rfl
          have hk1 : IntKind.i64.wrap (k : Int) = (k : Int) := by rw [IntKind.wrap_i64]; omega
          have hkn : k < n := by omega
          obtain ⟨lt, hlt⟩ : ∃ lt, less prev s = lt := ⟨_, rfl⟩
          have HLT := Lib.hid hlt
          clear hxp hlt
          cases lt
          case false =>
            have hl2 : (Op.bytesLess s.toList prev.toList || s.toList == prev.toList) = true := by
              rw [less_str, str_dec]
              cases h : less s prev with
              | true => rfl
              | false => rw [lessB_conn h HLT.out]; simp
            have HE4 : Hid (R = 10) := by
              show _ = _
              rw [HE.out, if_neg (by rw [HE2.out]; simp), if_pos]
              rw [HPV.out]; exact HLT.out
            go_region
            go_wp2_with fail
            go_ret
            exact ⟨by rw [HE4.out]; rfl, HB1.out.drew⟩
          case true =>
            have hl2 : Op.bytesLess s.toList prev.toList = false := by rw [less_str]; exact lessB_asymm HLT.out
            have hl3 : (s.toList == prev.toList) = false := str_ne (fun e => lessB_ne HLT.out e.symm)
            have HE3 : Hid (R = if (lookF9 l s).isSome ≠ true ∨ (lookF9 l s).getD eB ≠ old then 17 else 0) := by
              show _ = _
              rw [HE.out, if_neg (by rw [HE2.out]; simp), if_neg]
              rw [HPV.out]; show ¬ less prev s = false; rw [HLT.out]; simp
            go_region
            have HF := Lib.hid (tfind_any A1 m c1 w1.heap.size l s w1.drew (((H1.out.below HB1.out hB).more (Nat.le_trans hB HB1.out.size)).drew) (Nat.le_refl _) hm HA.out)
            unfold TfE at HF
            obtain ⟨ai, hai⟩ : ∃ ai, atF l s = ai := ⟨_, rfl⟩
            rw [hai] at HF
            have HAI := Lib.hid hai
            clear hai
            cases hlk : lookF9 l s with
            | none =>
              rw [hlk] at HF HE3
              simp only [Option.isSome_none] at HF
              clear hlk
              go_wp2_with fail
              refine HF.out.mono ?_
              rintro e w2 ⟨rfl, hb⟩
              have HB2 : Hid (Below w.heap.size w w2) := HB1.out.drew.trans (hb.mono HB1.out.size)
              have HK2 := Lib.hid (HK1.out.drew.below hb zk)
              clear hb HF y0 y1 y2 y3 y4
              obtain ⟨y0, y1, y2, y3, y4⟩ : w2.cell? ⟨w.heap.size, 0, none⟩ = some (.string s) ∧ w2.cell? ⟨w.heap.size, 1, none⟩ = some (.bool true) ∧ w2.cell? ⟨w.heap.size, 2, none⟩ = some (.bool true) ∧ w2.cell? ⟨w.heap.size, 3, none⟩ = some (.string old) ∧ w2.cell? ⟨w.heap.size, 4, none⟩ = some (.string new) := ⟨HK2.out.cell 0, HK2.out.cell 1, HK2.out.cell 2, HK2.out.cell 3, HK2.out.cell 4⟩
              have HE9 : Hid (R = 17) := by show _ = _; rw [HE3.out, if_pos]; simp
              go_wp2_with fail
              go_region
              go_wp2_with fail
              go_ret
              exact ⟨by rw [HE9.out]; rfl, HB2.out.drew⟩
            | some dd =>
              have HLK := Lib.hid hlk
              rw [hlk] at HF HE3
              simp only [Option.isSome_some] at HF
              clear hlk
              go_wp2_with fail
              refine HF.out.mono ?_
              rintro e w2 ⟨rfl, hb⟩
              have HB2 : Hid (Below w.heap.size w w2) := HB1.out.drew.trans (hb.mono HB1.out.size)
              have HK2 := Lib.hid (HK1.out.drew.below hb zk)
              clear hb HF y0 y1 y2 y3 y4
              obtain ⟨y0, y1, y2, y3, y4⟩ : w2.cell? ⟨w.heap.size, 0, none⟩ = some (.string s) ∧ w2.cell? ⟨w.heap.size, 1, none⟩ = some (.bool true) ∧ w2.cell? ⟨w.heap.size, 2, none⟩ = some (.bool true) ∧ w2.cell? ⟨w.heap.size, 3, none⟩ = some (.string old) ∧ w2.cell? ⟨w.heap.size, 4, none⟩ = some (.string new) := ⟨HK2.out.cell 0, HK2.out.cell 1, HK2.out.cell 2, HK2.out.cell 3, HK2.out.cell 4⟩
              have hal : ai < m := by
                rcases Nat.lt_or_ge ai m with h | h
                · exact h
                · have hlm := H1.out.len flC_len (by omega)
                  have := look_end HA.out (s := s) (by rw [HAI.out]; omega)
                  rw [HLK.out] at this; cases this
              obtain ⟨b4, off4, f4, hA4, hb4, hf4, q0, q1⟩ := (H1.out.below HB2.out hB).fl hal
              have HFD : Hid (f4.2 = dd) := by
                have := look_at HA.out (s := s) (g := f4) (by rw [HAI.out]; exact hf4)
                rw [HLK.out] at this
                split at this
                · injection this with this; exact this.symm
                · cases this
              rw [HFD.out] at q1
              subst hA4
              clear hf4 q0
              by_cases hdo : dd = old
              · have hdd : (dd.toList == old.toList) = true := by rw [hdo]; simp
                have HE9 : Hid (R = 0) := by show _ = _; rw [HE3.out, if_neg]; simp [hdo]
                clear hdo
                go_wp2_with fail
                go_region
                go_wp2_with fail
                go_ret
                exact ⟨by rw [HE9.out]; rfl, HB2.out.drew⟩
              · have hdd : (dd.toList == old.toList) = false := str_ne hdo
                have HE9 : Hid (R = 17) := by show _ = _; rw [HE3.out, if_pos]; simp [hdo]
                clear hdo
                go_wp2_with fail
                go_region
                go_wp2_with fail
                go_ret
                exact ⟨by rw [HE9.out]; rfl, HB2.out.drew⟩
      case false =>
        by_cases ho' : new = eB
        · have e1 : new.toList.isEmpty = true := by rw [ho', ByteArray.toList_eq]; rfl
          have HE2 : Hid (badC ⟨s, true, false, old, new⟩ = false) := by show _ = _; unfold badC; simp [ho']
          clear ho'
          go_wp2_with fail
          by_cases hj : j = 0
          · subst hj
            have HE3 : Hid (R = if (lookF9 l s).isSome ≠ true ∨ (lookF9 l s).getD eB ≠ old then 17 else 0) := by
              have := HE.out; rw [if_neg (by rw [HE2.out]; simp)] at this
              exact this
            go_region
            have HF := Lib.hid (tfind_any A1 m c1 w1.heap.size l s w1.drew (((H1.out.below HB1.out hB).more (Nat.le_trans hB HB1.out.size)).drew) (Nat.le_refl _) hm HA.out)
            unfold TfE at HF
            obtain ⟨ai, hai⟩ : ∃ ai, atF l s = ai := ⟨_, rfl⟩
            rw [hai] at HF
            have HAI := Lib.hid hai
            clear hai
            cases hlk : lookF9 l s with
            | none =>
              rw [hlk] at HF HE3
              simp only [Option.isSome_none] at HF
              clear hlk
              go_wp2_with fail
              refine HF.out.mono ?_
              rintro e w2 ⟨rfl, hb⟩
              have HB2 : Hid (Below w.heap.size w w2) := HB1.out.drew.trans (hb.mono HB1.out.size)
              have HK2 := Lib.hid (HK1.out.drew.below hb zk)
              clear hb HF y0 y1 y2 y3 y4
              obtain ⟨y0, y1, y2, y3, y4⟩ : w2.cell? ⟨w.heap.size, 0, none⟩ = some (.string s) ∧ w2.cell? ⟨w.heap.size, 1, none⟩ = some (.bool true) ∧ w2.cell? ⟨w.heap.size, 2, none⟩ = some (.bool false) ∧ w2.cell? ⟨w.heap.size, 3, none⟩ = some (.string old) ∧ w2.cell? ⟨w.heap.size, 4, none⟩ = some (.string new) := ⟨HK2.out.cell 0, HK2.out.cell 1, HK2.out.cell 2, HK2.out.cell 3, HK2.out.cell 4⟩
              have HE9 : Hid (R = 17) := by show _ = _; rw [HE3.out, if_pos]; simp
              go_wp2_with fail
              go_region
              go_wp2_with fail
              go_ret
              exact ⟨by rw [HE9.out]; rfl, HB2.out.drew⟩
            | some dd =>
              have HLK := Lib.hid hlk
              rw [hlk] at HF HE3
              simp only [Option.isSome_some] at HF
              clear hlk
              go_wp2_with fail
              refine HF.out.mono ?_
              rintro e w2 ⟨rfl, hb⟩
              have HB2 : Hid (Below w.heap.size w w2) := HB1.out.drew.trans (hb.mono HB1.out.size)
              have HK2 := Lib.hid (HK1.out.drew.below hb zk)
              clear hb HF y0 y1 y2 y3 y4
              obtain ⟨y0, y1, y2, y3, y4⟩ : w2.cell? ⟨w.heap.size, 0, none⟩ = some (.string s) ∧ w2.cell? ⟨w.heap.size, 1, none⟩ = some (.bool true) ∧ w2.cell? ⟨w.heap.size, 2, none⟩ = some (.bool false) ∧ w2.cell? ⟨w.heap.size, 3, none⟩ = some (.string old) ∧ w2.cell? ⟨w.heap.size, 4, none⟩ = some (.string new) := ⟨HK2.out.cell 0, HK2.out.cell 1, HK2.out.cell 2, HK2.out.cell 3, HK2.out.cell 4⟩
              have hal : ai < m := by
                rcases Nat.lt_or_ge ai m with h | h
                · exact h
                · have hlm := H1.out.len flC_len (by omega)
                  have := look_end HA.out (s := s) (by rw [HAI.out]; omega)
                  rw [HLK.out] at this; cases this
              obtain ⟨b4, off4, f4, hA4, hb4, hf4, q0, q1⟩ := (H1.out.below HB2.out hB).fl hal
              have HFD : Hid (f4.2 = dd) := by
                have := look_at HA.out (s := s) (g := f4) (by rw [HAI.out]; exact hf4)
                rw [HLK.out] at this
                split at this
                · injection this with this; exact this.symm
                · cases this
              rw [HFD.out] at q1
              subst hA4
              clear hf4 q0
              by_cases hdo : dd = old
              · have hdd : (dd.toList == old.toList) = true := by rw [hdo]; simp
                have HE9 : Hid (R = 0) := by show _ = _; rw [HE3.out, if_neg]; simp [hdo]
                clear hdo
                go_wp2_with fail
                go_region
                go_wp2_with fail
                go_ret
                exact ⟨by rw [HE9.out]; rfl, HB2.out.drew⟩
              · have hdd : (dd.toList == old.toList) = false := str_ne hdo
                have HE9 : Hid (R = 17) := by show _ = _; rw [HE3.out, if_pos]; simp [hdo]
                clear hdo
                go_wp2_with fail
                go_region
                go_wp2_with fail
                go_ret
                exact ⟨by rw [HE9.out]; rfl, HB2.out.drew⟩
          · obtain ⟨k, rfl⟩ : ∃ k, j = k + 1 := ⟨j - 1, by omega⟩
            obtain ⟨b3, off3, xp, hA3, hb3, hxp, z0, _⟩ := (H2.out.below HB1.out hB).fc (k := k) (by omega)
            injection hA3 with hA3
            injection hA3 with hA3 hA4
            subst hA3; subst hA4
            obtain ⟨prev, r1, r2, r3, r4⟩ := xp
            simp only at z0
            have HPV : Hid (prevC c (k + 1) = some prev) := by
              show _ = _
              unfold prevC; rw [if_neg (by omega), Nat.add_sub_cancel, hxp]; rfl
            have hk1 : IntKind.i64.wrap (k : Int) = (k : Int) := by rw [IntKind.wrap_i64]; omega
            have hkn : k < n := by omega
            obtain ⟨lt, hlt⟩ : ∃ lt, less prev s = lt := ⟨_, rfl⟩
            have HLT := Lib.hid hlt
            clear hxp hlt
            cases lt
            case false =>
              have hl2 : (Op.bytesLess s.toList prev.toList || s.toList == prev.toList) = true := by
                rw [less_str, str_dec]
                cases h : less s prev with
                | true => rfl
                | false => rw [lessB_conn h HLT.out]; simp
              have HE4 : Hid (R = 10) := by
                show _ = _
                rw [HE.out, if_neg (by rw [HE2.out]; simp), if_pos]
                rw [HPV.out]; exact HLT.out
              go_region
              go_wp2_with fail
              go_ret
              exact ⟨by rw [HE4.out]; rfl, HB1.out.drew⟩
            case true =>
              have hl2 : Op.bytesLess s.toList prev.toList = false := by rw [less_str]; exact lessB_asymm HLT.out
              have hl3 : (s.toList == prev.toList) = false := str_ne (fun e => lessB_ne HLT.out e.symm)
              have HE3 : Hid (R = if (lookF9 l s).isSome ≠ true ∨ (lookF9 l s).getD eB ≠ old then 17 else 0) := by
                show _ = _
                rw [HE.out, if_neg (by rw [HE2.out]; simp), if_neg]
                rw [HPV.out]; show ¬ less prev s = false; rw [HLT.out]; simp
              go_region
              have HF := Lib.hid (tfind_any A1 m c1 w1.heap.size l s w1.drew (((H1.out.below HB1.out hB).more (Nat.le_trans hB HB1.out.size)).drew) (Nat.le_refl _) hm HA.out)
              unfold TfE at HF
              obtain ⟨ai, hai⟩ : ∃ ai, atF l s = ai := ⟨_, rfl⟩
              rw [hai] at HF
              have HAI := Lib.hid hai
              clear hai
              cases hlk : lookF9 l s with
              | none =>
                rw [hlk] at HF HE3
                simp only [Option.isSome_none] at HF
                clear hlk
                go_wp2_with fail
                refine HF.out.mono ?_
                rintro e w2 ⟨rfl, hb⟩
                have HB2 : Hid (Below w.heap.size w w2) := HB1.out.drew.trans (hb.mono HB1.out.size)
                have HK2 := Lib.hid (HK1.out.drew.below hb zk)
                clear hb HF y0 y1 y2 y3 y4
                obtain ⟨y0, y1, y2, y3, y4⟩ : w2.cell? ⟨w.heap.size, 0, none⟩ = some (.string s) ∧ w2.cell? ⟨w.heap.size, 1, none⟩ = some (.bool true) ∧ w2.cell? ⟨w.heap.size, 2, none⟩ = some (.bool false) ∧ w2.cell? ⟨w.heap.size, 3, none⟩ = some (.string old) ∧ w2.cell? ⟨w.heap.size, 4, none⟩ = some (.string new) := ⟨HK2.out.cell 0, HK2.out.cell 1, HK2.out.cell 2, HK2.out.cell 3, HK2.out.cell 4⟩
                have HE9 : Hid (R = 17) := by show _ = _; rw [HE3.out, if_pos]; simp
                go_wp2_with fail
                go_region
                go_wp2_with fail
                go_ret
                exact ⟨by rw [HE9.out]; rfl, HB2.out.drew⟩
              | some dd =>
                have HLK := Lib.hid hlk
                rw [hlk] at HF HE3
                simp only [Option.isSome_some] at HF
                clear hlk
                go_wp2_with fail
                refine HF.out.mono ?_
                rintro e w2 ⟨rfl, hb⟩
                have HB2 : Hid (Below w.heap.size w w2) := HB1.out.drew.trans (hb.mono HB1.out.size)
                have HK2 := Lib.hid (HK1.out.drew.below hb zk)
                clear hb HF y0 y1 y2 y3 y4
                obtain ⟨y0, y1, y2, y3, y4⟩ : w2.cell? ⟨w.heap.size, 0, none⟩ = some (.string s) ∧ w2.cell? ⟨w.heap.size, 1, none⟩ = some (.bool true) ∧ w2.cell? ⟨w.heap.size, 2, none⟩ = some (.bool false) ∧ w2.cell? ⟨w.heap.size, 3, none⟩ = some (.string old) ∧ w2.cell? ⟨w.heap.size, 4, none⟩ = some (.string new) := ⟨HK2.out.cell 0, HK2.out.cell 1, HK2.out.cell 2, HK2.out.cell 3, HK2.out.cell 4⟩
                have hal : ai < m := by
                  rcases Nat.lt_or_ge ai m with h | h
                  · exact h
                  · have hlm := H1.out.len flC_len (by omega)
                    have := look_end HA.out (s := s) (by rw [HAI.out]; omega)
                    rw [HLK.out] at this; cases this
                obtain ⟨b4, off4, f4, hA4, hb4, hf4, q0, q1⟩ := (H1.out.below HB2.out hB).fl hal
                have HFD : Hid (f4.2 = dd) := by
                  have := look_at HA.out (s := s) (g := f4) (by rw [HAI.out]; exact hf4)
                  rw [HLK.out] at this
                  split at this
                  · injection this with this; exact this.symm
                  · cases this
                rw [HFD.out] at q1
                subst hA4
                clear hf4 q0
                by_cases hdo : dd = old
                · have hdd : (dd.toList == old.toList) = true := by rw [hdo]; simp
                  have HE9 : Hid (R = 0) := by show _ = _; rw [HE3.out, if_neg]; simp [hdo]
                  clear hdo
                  go_wp2_with fail
                  go_region
                  go_wp2_with fail
                  go_ret
                  exact ⟨by rw [HE9.out]; rfl, HB2.out.drew⟩
                · have hdd : (dd.toList == old.toList) = false := str_ne hdo
                  have HE9 : Hid (R = 17) := by show _ = _; rw [HE3.out, if_pos]; simp [hdo]
                  clear hdo
                  go_wp2_with fail
                  go_region
                  go_wp2_with fail
                  go_ret
                  exact ⟨by rw [HE9.out]; rfl, HB2.out.drew⟩
        · have e1 : new.toList.isEmpty = false := str_emp ho'
          have HE2 : Hid (badC ⟨s, true, false, old, new⟩ = true) := by show _ = _; unfold badC; simp [ho']
          clear ho'
          go_wp2_with fail
          go_ret
          exact ⟨by rw [HE.out, if_pos HE2.out]; rfl, HB1.out⟩
end Go.Proofs.YtmdhlkkekidknaaGreatDoor

namespace Go.Proofs.YtmdhlkkekidknaaGreatDoor
open Go.RowKit

def GcE (n : Nat) (l : List FCh) (w : World) (e : Ending) (w' : World) : Prop := ∃ r : Bool, e = .returned (.bool r) ∧ (r = false → n ≤ 10 ∧ ∀ x ∈ l, x.path.size ≤ 120 ∧ x.old.size ≤ 200 ∧ x.new.size ≤ 200) ∧ w = w'
set_option maxRecDepth 100000 in
set_option maxHeartbeats 4000000 in
theorem greatC_any (A : Option Addr) (n c B : Nat) (l : List FCh) (w : World) (h0 : Sl w B 5 A n (flat fcC l)) (hn : n ≤ maxLen) (hs : ∀ x ∈ l, x.path.size ≤ maxLen ∧ x.old.size ≤ maxLen ∧ x.new.size ≤ maxLen) :
    Calls Tryz.prog 37 #[.slice A n c] w (GcE n l w) := by
  unfold maxLen at hn
  have HL0 := Lib.hid (h0.len fcC_len (by omega))
  have H0 := Lib.hid h0; clear h0
  have HS := Lib.hid hs; clear hs
  go_enter Tryz.func37, Tryz.ntmps37
  by_cases hbig : (10 : Int) < (n : Int)
  · go_wp2
    go_ret
    exact ⟨true, rfl, (fun e => by cases e), rfl⟩
  go_wp2
  go_loopw [3] (fun i wr => ∃ k : Nat, k ≤ n ∧ i = .int .i64 k ∧ wr = w ∧ Hid (∀ f ∈ l.take k, f.path.size ≤ 120 ∧ f.old.size ≤ 200 ∧ f.new.size ≤ 200)) (fun i _ => n - (intOf i).toNat)
  case atStart => exact ⟨0, Nat.zero_le _, rfl, rfl, fun y hy => by simp at hy⟩
  case round =>
    obtain ⟨k, hk, rfl, rfl, hN⟩ := hrel
    by_cases hlt : k < n
    · obtain ⟨b, off, f, rfl, hb, hf, y0, y1, y2, y3, y4⟩ := H0.out.fc hlt
      have hkz : (k : Int) < (n : Int) := by omega
      have hfs := HS.out f (List.mem_of_getElem? hf)
      unfold maxLen at hfs
      obtain ⟨hf1, hf2, hf3⟩ := hfs
      have HF := Lib.hid hf; clear hf
      by_cases c1 : (120 : Int) < (f.path.size : Int)
      · go_wp2
        go_ret
        exact ⟨true, rfl, (fun e => by cases e), rfl⟩
      by_cases c2 : (200 : Int) < (f.old.size : Int)
      · go_wp2
        go_ret
        exact ⟨true, rfl, (fun e => by cases e), rfl⟩
      by_cases c3 : (200 : Int) < (f.new.size : Int)
      · go_wp2
        go_ret
        exact ⟨true, rfl, (fun e => by cases e), rfl⟩
      have HN : Hid (∀ f ∈ l.take (k + 1), f.path.size ≤ 120 ∧ f.old.size ≤ 200 ∧ f.new.size ≤ 200) := fun y hy => by
        rw [take_snoc HF.out] at hy
        rcases List.mem_append.1 hy with hy | hy
        · exact hN.out y hy
        · rw [List.mem_singleton.1 hy]; omega
      go_wp2
      go_roundw
      case rel => exact ⟨k + 1, hlt, by go_num, trivial, HN.out⟩
      case measure => simp [intOf]; omega
    · have hkz : ¬ (k : Int) < (n : Int) := by omega
      have HN : Hid (∀ f ∈ l, f.path.size ≤ 120 ∧ f.old.size ≤ 200 ∧ f.new.size ≤ 200) := by
        have := hN.out
        rwa [List.take_of_length_le (by rw [HL0.out]; omega)] at this
      go_wp2
      go_ret
      exact ⟨false, rfl, (fun _ => ⟨by omega, HN.out⟩), rfl⟩
end Go.Proofs.YtmdhlkkekidknaaGreatDoor

namespace Go.Proofs.YtmdhlkkekidknaaGreatDoor
open Go.RowKit

theorem look9_at {l : List Fl} {s : ByteArray} {k : Nat} {f : Fl} (hN : ∀ y ∈ l.take k, y.1 ≠ s) (hf : l[k]? = some f) (he : f.1 = s) : lookF9 l s = some f.2 := by
  unfold lookF9
  rw [← List.take_append_drop k l, List.find?_append]
  have h0 : (l.take k).find? (fun f => decide (f.1 = s)) = none := by
    rw [List.find?_eq_none]; intro x hx; simpa using hN x hx
  rw [h0, drop_at hf]
  simp [he]
def FdD (l : List Fl) (s : ByteArray) (w : World) (e : Ending) (w' : World) : Prop := e = .returned (.tuple #[.string ((lookF9 l s).getD eB), .bool (lookF9 l s).isSome]) ∧ w = w'
set_option maxRecDepth 100000 in
set_option maxHeartbeats 1000000 in
theorem find9D_any (A : Option Addr) (n c B : Nat) (fs : List Fl) (p : ByteArray) (w : World) (h0 : Sl w B 2 A n (flat flC fs)) (hn : n ≤ 1000000) :
    Calls Tryz.prog 66 #[.slice A n c, .string p] w (FdD fs p w) := by
  have HL := Lib.hid (h0.len flC_len (by omega))
  have H0 := Lib.hid h0; clear h0
  go_enter Tryz.func66, Tryz.ntmps66
  go_wp2
  go_loopw [6] (fun i wr => ∃ k : Nat, k ≤ n ∧ i = .int .i64 k ∧ Hid (∀ f ∈ fs.take k, f.1 ≠ p) ∧ wr = w) (fun i _ => n - (intOf i).toNat)
  case atStart => exact ⟨0, Nat.zero_le _, rfl, fun f hf => by simp at hf, rfl⟩
  case round =>
    obtain ⟨k, hk, rfl, hN, rfl⟩ := hrel
    by_cases hlt : k < n
    · obtain ⟨b, off, f, rfl, hb, hf, y0, y1⟩ := H0.out.fl hlt
      have hkz : (k : Int) < (n : Int) := by omega
      have HF := Lib.hid hf; clear hf
      have hse := str_dec f.1 p
      by_cases e : f.1 = p
      · have HM : Hid (lookF9 fs p = some f.2) := look9_at hN.out HF.out e
        rw [decide_eq_true e] at hse
        clear e
        go_wp2
        go_ret2
        exact ⟨by rw [HM.out]; rfl, rfl⟩
      · rw [decide_eq_false e] at hse
        have HN : Hid (∀ f ∈ fs.take (k + 1), f.1 ≠ p) := fun y hy => by
          rw [take_snoc HF.out] at hy
          rcases List.mem_append.1 hy with hy | hy
          · exact hN.out y hy
          · rw [List.mem_singleton.1 hy]; exact e
        clear e
        go_wp2
        go_roundw
        case rel => exact ⟨k + 1, hlt, by go_num, HN.out, trivial⟩
        case measure => simp [intOf]; omega
    · have hkz : ¬ (k : Int) < (n : Int) := by omega
      have HM : Hid (lookF9 fs p = none) := look9_none.2 (fun f hf => hN.out f (by rw [List.take_of_length_le (by rw [HL.out]; omega)]; exact hf))
      go_wp2
      go_ret2
      exact ⟨by rw [HM.out]; rfl, rfl⟩
theorem LdSeq.len {p : List Itm} {d : Dig} {fs : List Fl} (h : LdSeq p d fs) : fs.length ≤ 200 := by rw [h.perm.length_eq]; exact h.few
end Go.Proofs.YtmdhlkkekidknaaGreatDoor

namespace Go.Proofs.YtmdhlkkekidknaaGreatDoor
open Go.RowKit Go.Maps

def rmv (g : ByteArray → Option Value) (s : ByteArray) : ByteArray → Option Value := fun t => if t = s then none else g t
theorem Rm.del {w : World} {P : Program} {k t e : TypeId} {b N : Nat} {g : ByteArray → Option Value} (h : Rm w P k b N g) (hk : P.underlying k = some .string) (ht : P.underlying t = some (.map k e)) {s : ByteArray} (hs : s.size ≤ maxLen) (ty : TypeId) :
    ∃ w', (Builtin.delete_ #[t, k] ty #[.map (some b), .string s]).run P w = .ok (.tuple #[]) w' ∧ Rm w' P k b N (rmv g s) ∧ w.grownBy w' (some b) := by
  obtain ⟨D, h1, h2⟩ := h
  obtain ⟨w', hrun, ho, hg⟩ := h1.drop (string_keyed hk) ht (key_str hk hs) ty
  refine ⟨w', hrun, ⟨_, ho, fun r => ?_⟩, hg.grown⟩
  unfold rmv
  by_cases hr : r = s
  · subst hr
    rw [if_pos rfl]
    exact ⟨has_del_same, fun z => atKey_del_same _⟩
  · rw [if_neg hr]
    exact ⟨(has_del_other (lit_ne hr)).trans (h2 r).1, fun z => (atKey_del_other (lit_ne hr) _).trans ((h2 r).2 z)⟩
theorem wpList_del_rm {P : Program} {w : World} {ops : Array Oper} {rest : List Oper} {o : Oper} {a : Act} {Q : Exit → Act → World → Prop} (hgd : o.guard = none) (m x : Operand) (t k : TypeId) (hop : o.op = Op.call { callee := Callee.builtin Builtin.delete, args := #[m, x], argTypes := #[t, k] })
    (e : TypeId) (hk : P.underlying k = some .string) (ht : P.underlying t = some (.map k e)) (b N : Nat) (g : ByteArray → Option Value) (hm : a.eval m = .map (some b)) (h : Rm w P k b N g)
    (s : ByteArray) (hs : s.size ≤ maxLen) (hx : a.eval x = .string s)
    (hK : ∀ w', Rm w' P k b N (rmv g s) → w.grownBy w' (some b) → wpList P ops Q rest (a.put o.dst (.tuple #[])) w') : wpList P ops Q (o :: rest) a w := by
  refine wpList_plain hgd fun K' hK' => ?_
  obtain ⟨w', hrun, r1, r2⟩ := h.del hk ht hs o.type
  unfold Oper.wp
  simp [execOp, hop, resolve, invoke, builtin, hm, hx, hrun, Result.andThen]
  exact hK' _ _ (hK w' r1 r2)
def gP (m : List Fl) (s : ByteArray) : Option Value := (lookF9 m s).map Value.string
theorem gP_nil : gP [] = fun _ => none := by funext s; simp [gP, lookF9]
theorem gP_snoc {m : List Fl} {f : Fl} (hn : f.1 ∉ m.map Prod.fst) : gP (m ++ [f]) = upd (gP m) f.1 (.string f.2) := by
  funext s
  unfold upd gP
  rw [look9_snoc hn]
  by_cases h : s = f.1
  · subst h; simp
  · have h' : ¬ f.1 = s := fun e => h e.symm
    simp only [if_neg h, if_neg h']
theorem gP_with {m : List Fl} (h : AscF m) (f : Fl) : gP (withF m f) = upd (gP m) f.1 (.string f.2) := by
  funext s
  unfold upd gP
  rw [look_withF h]
  by_cases hs : s = f.1
  · simp only [if_pos hs, Option.map_some]
  · simp only [if_neg hs]
theorem gP_wot {m : List Fl} (h : AscF m) (t : ByteArray) : gP (wotF m t) = rmv (gP m) t := by
  funext s
  unfold rmv gP
  rw [look_wotF h]
  by_cases hs : s = t
  · simp only [if_pos hs, Option.map_none]
  · simp only [if_neg hs]
theorem gP_some (m : List Fl) (s : ByteArray) : (gP m s).isSome = true ↔ (lookF9 m s).isSome = true := by unfold gP; simp
theorem files_of {m : List Fl} {ks : List ByteArray} (hm : AscF m) (hk : Asc ks) (h : ∀ x, x ∈ ks ↔ (gP m x).isSome = true) : ks.map (fun k => ((k, (lookF9 m k).getD eB) : Fl)) = m := by
  refine AscF.ext ?_ hm (fun f => ?_)
  · unfold AscF
    rw [List.pairwise_map]; exact hk
  · have hs := look9_some (asc_nodup hm) (n := f.1) (s := f.2)
    rw [List.mem_map]
    constructor
    · rintro ⟨k, hk', rfl⟩
      have := (gP_some m k).1 ((h k).1 hk')
      obtain ⟨d, hd⟩ := Option.isSome_iff_exists.1 this
      rw [hd]
      exact (look9_some (asc_nodup hm)).1 hd
    · intro hf
      have hd := hs.2 hf
      exact ⟨f.1, (h f.1).2 ((gP_some m f.1).2 (by rw [hd]; rfl)), by rw [hd]; rfl⟩
def PtE (l : List Fl) (c : List FCh) (w : World) (e : Ending) (w' : World) : Prop :=
  (∃ m err, PatR l c m err ∧ ((err ≠ 0 ∧ e = .returned (.tuple #[.slice none 0 0, .int .i64 err])) ∨ (err = 0 ∧ ∃ A cap, e = .returned (.tuple #[.slice A m.length cap, .int .i64 0]) ∧ Sl w' w'.heap.size 2 A m.length (flat flC m) ∧ m.length ≤ cap ∧ cap ≤ maxLen))) ∧ Below w.heap.size w w'
end Go.Proofs.YtmdhlkkekidknaaGreatDoor

namespace Go.Proofs.YtmdhlkkekidknaaGreatDoor
open Go.RowKit Go.Maps

theorem ckC_path {l : List Fl} {prev : Option ByteArray} {x : FCh} (h : ckC l prev x = 0) : pathB x.path = true := by
  unfold ckC at h
  cases hp : pathB x.path with
  | true => rfl
  | false => rw [if_pos hp] at h; cases h
theorem appC_sz {m : List Fl} {x : FCh} (h : ∀ f ∈ m, f.1.size ≤ 1000000 ∧ f.2.size ≤ 60000) (hx : x.path.size ≤ 1000000 ∧ x.new.size ≤ 60000) : ∀ f ∈ appC m x, f.1.size ≤ 1000000 ∧ f.2.size ≤ 60000 := fun f hf => by
  unfold appC at hf
  split at hf
  · rcases mem_withF.1 hf with ⟨h1, _⟩ | rfl
    · exact h f h1
    · exact hx
  · exact h f (mem_wotF.1 hf).1
set_option maxRecDepth 100000 in
set_option maxHeartbeats 16000000 in
theorem tpatch_any (A1 A2 : Option Addr) (m c1 n c2 B : Nat) (l : List Fl) (c : List FCh) (w : World) (h1 : Sl w B 2 A1 m (flat flC l)) (h2 : Sl w B 5 A2 n (flat fcC c)) (hB : B ≤ w.heap.size) (hm : m ≤ 1000000) (hn : n ≤ 400)
    (hsl : ∀ f ∈ l, f.1.size ≤ 1000000 ∧ f.2.size ≤ 60000) (hsc : ∀ x ∈ c, x.path.size ≤ 1000000 ∧ x.new.size ≤ 60000) :
    Calls Tryz.prog 38 #[.slice A1 m c1, .slice A2 n c2] w (PtE l c w) := by
  have H1 := Lib.hid h1; have H2 := Lib.hid h2; have HSL := Lib.hid hsl; have HSC := Lib.hid hsc
  have HL1 := Lib.hid (h1.len flC_len (by omega)); have HL2 := Lib.hid (h2.len fcC_len (by omega))
  have HC := Lib.hid (tcheck_any A1 m c1 B l w h1 hB hm hsl)
  clear h1 h2 hsl hsc
  go_enter Tryz.func38, Tryz.ntmps38
  go_wp2_with fail
  refine HC.out.mono ?_
  rintro e w2 ⟨z, rfl, hz, hb⟩
  have HZ := Lib.hid hz; have HB2 := Lib.hid hb
  clear hz hb HC
  by_cases h0 : z = 0
  case neg =>
    have t1 : (z != 0) = true := by rw [bne_iff_ne]; exact h0
    have H0' := Lib.hid h0
    clear h0
    go_wp2_with fail
    go_ret2
    exact ⟨⟨[], z, .inl ⟨z, HZ.out, H0'.out, rfl⟩, .inl ⟨H0'.out, rfl⟩⟩, HB2.out⟩
  case pos =>
    subst h0
    obtain ⟨hok, hasc⟩ := ck_ok HZ.out (fun f hf => (HSL.out f hf).2)
    have HOK := Lib.hid hok; have HASC := Lib.hid hasc
    have hfew : m ≤ 200 := by rw [← HL1.out]; exact hok.few
    have hmm := @run_makeMap Tryz.prog
    have H1W := Lib.hid (H1.out.below HB2.out hB); have H2W := Lib.hid (H2.out.below HB2.out hB)
    have zB : B ≤ w2.heap.size := Nat.le_trans hB HB2.out.size
    clear hok hasc
    go_wp2_with fail
    obtain ⟨M, hM⟩ : ∃ M, w2.heap.size = M := ⟨_, rfl⟩
    have HM0 : Hid (Rm (w2.alloc (.map #[] 0)) Tryz.prog 9 M 0 (gP (l.take 0))) := by
      show Rm _ _ _ _ _ _
      rw [List.take_zero, gP_nil, ← hM]; exact Rm.made w2 Tryz.prog 9
    have HB3 : Hid (Below M w2 (w2.alloc (.map #[] 0))) := by rw [← hM]; exact (Below.refl _ w2).alloc (Nat.le_refl _) _
    have HMM := Lib.hid hM
    rw [hM] at zB ⊢
    clear hM hmm
    go_loopw [25] (fun i wr => ∃ j : Nat, j ≤ m ∧ i = .int .i64 (j : Int) ∧ Hid (Rm wr Tryz.prog 9 M j (gP (l.take j))) ∧ Hid (Below M w2 wr)) (fun i _ => m - (intOf i).toNat)
    case atStart => exact ⟨0, Nat.zero_le _, rfl, HM0.out, HB3.out⟩
    case round =>
      obtain ⟨j, hj, rfl, hR, hBel⟩ := hrel
      by_cases hlt : j < m
      · have hlz : (j : Int) < (m : Int) := by omega
        obtain ⟨bb, off, f, rfl, hbB, hf, y0, y1⟩ := (H1W.out.below hBel.out zB).fl hlt
        have hfs : f.1.size ≤ 100 := path_len (HOK.out.path f (List.mem_of_getElem? hf))
        have HND := Lib.hid (nod_at HOK.out.nod hf)
        have HTK := Lib.hid (take_snoc hf)
        clear hf
        obtain ⟨fp, fd⟩ := f
        simp only at y0 y1 hfs
        have hsm : fp.size ≤ maxLen := by unfold maxLen; omega
        go_wp2_with (at_mapUpdate; refine halt_ ?_)
        refine unhalt ?_
        refine wpList_put_rm rfl _ _ _ 118 rfl 9 9 Tryz.underlying9 Tryz.underlying118 M j (gP (l.take j)) rfl (hR.out.alloc _) (by unfold maxLen; omega) fp hsm _ rfl rfl ?_
        intro w4 hM4 hg4
        have HM4 : Hid (Rm w4 Tryz.prog 9 M (j + 1) (gP (l.take (j + 1)))) := by
          show Rm _ _ _ _ _ _
          rw [HTK.out, gP_snoc HND.out]; exact hM4
        have zM : M ≤ wr.heap.size := by have := hBel.out.size; have := HMM.out; omega
        have HB4 : Hid (Below M w2 w4) := (hBel.out.alloc zM _).grown hg4 (by simp; omega) (fun k e => by cases e; exact Nat.le_refl _)
        clear hM4 hg4 hR hBel
        go_wp2_with fail
        go_roundw
        case rel => exact ⟨j + 1, hlt, by go_num, HM4.out, HB4.out⟩
        case measure => simp [intOf]; omega
      · have hlz : ¬ (j : Int) < (m : Int) := by omega
        have hje : j = m := by omega
        have HM5 : Hid (Rm wr Tryz.prog 9 M m (gP l)) := by
          have := hR.out
          rw [hje, List.take_of_length_le (by rw [HL1.out]; exact Nat.le_refl _)] at this; exact this
        obtain ⟨wo, hwo⟩ : ∃ wo, wo = wr := ⟨_, rfl⟩
        subst hwo
        have HB5 := Lib.hid hBel.out
        clear hR hBel
        go_wp2_with fail
        go_loopw [37] (fun i wr => ∃ (j : Nat) (q : List Fl), j ≤ n ∧ i = .int .i64 (j : Int) ∧ Hid (PatAt l c j q) ∧ Hid (∀ f ∈ q, f.1.size ≤ 1000000 ∧ f.2.size ≤ 60000) ∧ Hid (Rm wr Tryz.prog 9 M (m + j) (gP q)) ∧ Hid (Below M w2 wr)) (fun i _ => n - (intOf i).toNat)
        case atStart => exact ⟨0, l, Nat.zero_le _, rfl, PatAt.start HASC.out, HSL.out, HM5.out, HB5.out⟩
        case round =>
          clear HM5 HB5
          obtain ⟨j, q, hj, rfl, hP, hSz, hR, hBel⟩ := hrel
          by_cases hlt : j < n
          · have hlz : (j : Int) < (n : Int) := by omega
            obtain ⟨bb, off, x, rfl, hbB, hx, y0, y1, y2, y3, y4⟩ := (H2W.out.below hBel.out zB).fc hlt
            have HX := Lib.hid hx
            have HXS := Lib.hid (HSC.out x (List.mem_of_getElem? hx))
            have hxs := HXS.out.1
            obtain ⟨zz, hzz⟩ : ∃ zz, ckC l (prevC c j) x = zz := ⟨_, rfl⟩
            obtain ⟨W3, hW3⟩ : ∃ W3, wr.alloc (.cells #[.string x.path, .bool x.ho, .bool x.hn, .string x.old, .string x.new] 112) = W3 := ⟨_, rfl⟩
            have zM : M ≤ wr.heap.size := by have := hBel.out.size; have := HMM.out; omega
            have HB6 : Hid (Below M w2 W3) := by rw [← hW3]; exact hBel.out.alloc zM _
            have HK6 : Hid (Bk W3 wr.heap.size 112 #[.string x.path, .bool x.ho, .bool x.hn, .string x.old, .string x.new]) := by rw [← hW3]; exact Bk.new wr _ _
            have HM6 : Hid (Rm W3 Tryz.prog 9 M (m + j) (gP q)) := by rw [← hW3]; exact hR.out.alloc _
            have zBW : B ≤ W3.heap.size := by have := HB6.out.size; have := HMM.out; omega
            have HCK := Lib.hid (ckc_any A1 (some ⟨bb, off, none⟩) m c1 n c2 B j l c x W3 (H1W.out.below HB6.out zB) (H2W.out.below HB6.out zB) zBW hm (by omega) HASC.out hx hxs)
            rw [hzz] at HCK
            have HZZ := Lib.hid hzz
            have HW3 := Lib.hid hW3
            clear hzz hW3 hx hR hBel
            go_wp2_with fail
            rw [HW3.out]
            refine HCK.out.mono ?_
            rintro e w4 ⟨rfl, hb⟩
            have HB7 : Hid (Below M w2 w4) := HB6.out.trans (hb.mono (by have := HB6.out.size; have := HMM.out; omega))
            have HK7 := Lib.hid (HK6.out.below hb HK6.out.lt)
            have HM7 := Lib.hid (HM6.out.below hb HM6.out.lt)
            clear hb HCK HB6 HK6 HM6 HW3 y0 y1 y2 y3 y4
            by_cases hz0 : zz = 0
            · have HZ0 : Hid (ckC l (prevC c j) x = 0) := by show _ = _; rw [HZZ.out]; exact hz0
              have hps : x.path.size ≤ 100 := path_len (ckC_path HZ0.out)
              have hsm : x.path.size ≤ maxLen := by unfold maxLen; omega
              have HP8 := Lib.hid (hP.out.next HX.out HZ0.out)
              have HS8 := Lib.hid (appC_sz hSz.out HXS.out)
              subst hz0
              obtain ⟨y0, y1, y2, y3, y4⟩ : w4.cell? ⟨wr.heap.size, 0, none⟩ = some (.string x.path) ∧ w4.cell? ⟨wr.heap.size, 1, none⟩ = some (.bool x.ho) ∧ w4.cell? ⟨wr.heap.size, 2, none⟩ = some (.bool x.hn) ∧ w4.cell? ⟨wr.heap.size, 3, none⟩ = some (.string x.old) ∧ w4.cell? ⟨wr.heap.size, 4, none⟩ = some (.string x.new) := ⟨HK7.out.cell 0, HK7.out.cell 1, HK7.out.cell 2, HK7.out.cell 3, HK7.out.cell 4⟩
              cases hhn : x.hn with
              | true =>
                rw [hhn] at y2
                have HA8 : Hid (appC q x = withF q (x.path, x.new)) := by show _ = _; unfold appC; rw [if_pos hhn]
                clear hhn
                go_wp2_with (at_mapUpdate; refine halt_ ?_)
                refine unhalt ?_
                refine wpList_put_rm rfl _ _ _ 118 rfl 9 9 Tryz.underlying9 Tryz.underlying118 M (m + j) (gP q) rfl HM7.out (by unfold maxLen; omega) x.path hsm _ rfl rfl ?_
                intro w5 hM5 hg5
                have HM9 : Hid (Rm w5 Tryz.prog 9 M (m + (j + 1)) (gP (appC q x))) := by
                  show Rm _ _ _ _ _ _
                  rw [HA8.out, gP_with hP.out.asc]; exact hM5
                have HB9 : Hid (Below M w2 w5) := HB7.out.grown hg5 (by have := HB7.out.size; have := HMM.out; omega) (fun k e => by cases e; exact Nat.le_refl _)
                clear hM5 hg5 HM7 HB7 y0 y1 y2 y3 y4
                go_wp2_with fail
                go_roundw
                case rel => exact ⟨j + 1, _, hlt, by go_num, HP8.out, HS8.out, HM9.out, HB9.out⟩
                case measure => simp [intOf]; omega
              | false =>
                rw [hhn] at y2
                have HA8 : Hid (appC q x = wotF q x.path) := by show _ = _; unfold appC; rw [if_neg (by rw [hhn]; simp)]
                clear hhn
                go_wp2_with (at_delete; refine halt_ ?_)
                refine unhalt ?_
                refine wpList_del_rm rfl _ _ 118 9 rfl 9 Tryz.underlying9 Tryz.underlying118 M (m + j) (gP q) rfl HM7.out x.path hsm rfl ?_
                intro w5 hM5 hg5
                have HM9 : Hid (Rm w5 Tryz.prog 9 M (m + (j + 1)) (gP (appC q x))) := by
                  show Rm _ _ _ _ _ _
                  rw [HA8.out, gP_wot hP.out.asc]; exact hM5.more (by omega)
                have HB9 : Hid (Below M w2 w5) := HB7.out.grown hg5 (by have := HB7.out.size; have := HMM.out; omega) (fun k e => by cases e; exact Nat.le_refl _)
                clear hM5 hg5 HM7 HB7 y0 y1 y2 y3 y4
                go_wp2_with fail
                go_roundw
                case rel => exact ⟨j + 1, _, hlt, by go_num, HP8.out, HS8.out, HM9.out, HB9.out⟩
                case measure => simp [intOf]; omega
            · have t1 : (zz != 0) = true := by rw [bne_iff_ne]; exact hz0
              have HZ0 : Hid (ckC l (prevC c j) x ≠ 0) := by show _ ≠ _; rw [HZZ.out]; exact hz0
              have HER := Lib.hid (hP.out.err HX.out HZ0.out)
              clear hz0
              go_wp2_with fail
              go_ret2
              refine ⟨⟨[], zz, .inr ⟨HZ.out, .inl ⟨by rw [HER.out]; exact HZ0.out, by rw [HER.out]; exact HZZ.out.symm⟩⟩, .inl ⟨by rw [← HZZ.out]; exact HZ0.out, rfl⟩⟩, HB2.out.trans (HB7.out.mono (by have := HB2.out.size; have := HMM.out; omega))⟩
          · have hlz : ¬ (j : Int) < (n : Int) := by omega
            have HPD := Lib.hid (hP.out.done (by rw [HL2.out]; omega))
            have hNM : m + j ≤ 600 := by omega
            obtain ⟨N0, hN0⟩ : ∃ N0, m + j = N0 := ⟨_, rfl⟩
            have HM7 := Lib.hid hR.out
            rw [hN0] at HM7 hNM
            have HASQ := Lib.hid hP.out.asc
            have HSQ := Lib.hid hSz.out
            obtain ⟨wp, hwp⟩ : ∃ wp, wp = wr := ⟨_, rfl⟩
            subst hwp
            have HB7 := Lib.hid hBel.out
            have HKC := Lib.hid (keysS_any M wp)
            clear hR hBel hP hSz hN0
            go_wp2_with fail
            refine HKC.out.mono ?_
            rintro e w5 ⟨rfl, hw5⟩
            have hb5 : Below wp.heap.size wp w5 := by rw [hw5]; exact (Below.refl _ wp).alloc (Nat.le_refl _) _
            have hk5 : Bk w5 wp.heap.size 118 #[.map (some M)] := by rw [hw5]; exact Bk.new wp _ _
            have HM8 := Lib.hid (HM7.out.below hb5 HM7.out.lt)
            have HSO := Lib.hid (sortedS_any wp.heap.size M N0 (gP q) w5 HM8.out (hk5.cell 0) hk5.lt (by omega))
            unfold SkE at HSO
            have zM : M ≤ wp.heap.size := by have := HB7.out.size; have := HMM.out; omega
            have HB8 : Hid (Below M w2 w5) := HB7.out.trans (hb5.mono zM)
            clear hw5 hb5 hk5 HKC HB7 HM7
            go_wp2_with fail
            refine HSO.out.mono ?_
            rintro e w6 ⟨A7, c7, ks, rfl, hasc, hmem, hlen, hrow, hb6⟩
            have HKA := Lib.hid hasc; have HMEM := Lib.hid hmem
            have HFO := Lib.hid (files_of HASQ.out hasc hmem)
            have zM5 : M ≤ w5.heap.size := by have := HB8.out.size; have := HMM.out; omega
            have HM9 := Lib.hid (HM8.out.below hb6 HM8.out.lt)
            have HB9 : Hid (Below M w2 w6) := HB8.out.trans (hb6.mono zM5)
            have HKS : Hid (Sl w6 w6.heap.size 1 A7 ks.length (strs ks)) := Sl.of_own hrow
            have hML : M < w6.heap.size := HM9.out.lt
            obtain ⟨Z, hZ⟩ : ∃ Z, w6.heap.size = Z := ⟨_, rfl⟩
            have HZZ := Lib.hid hZ
            rw [hZ] at HKS hML
            clear hasc hmem hrow hb6 HSO HM8 HB8 zM5 hZ
            go_wp2_with fail
            obtain ⟨i0, hi, hz0, hz1, hz2⟩ := info_parts infoFile
            have Hi := Lib.hid hi; have Hz0 := Lib.hid hz0; have Hz1 := Lib.hid hz1; have Hz2 := Lib.hid hz2
            clear hi hz0 hz1 hz2
            go_loopw [13, 64] (fun r i wr => ∃ (j : Nat) (A : Option Addr) (c : Nat), j ≤ ks.length ∧ i = .int .i64 (j : Int) ∧ r = .slice A j c ∧ j ≤ c ∧ c ≤ maxLen ∧ Hid (wr.ownsRow Z 68 2 (.slice A j c) j (flat flC ((ks.take j).map (fun k => ((k, (lookF9 q k).getD eB) : Fl))))) ∧ Hid (Below Z w6 wr)) (fun _ i _ => ks.length - (intOf i).toNat)
            case atStart => exact ⟨0, none, 0, Nat.zero_le _, rfl, rfl, Nat.le_refl _, Nat.zero_le _, World.ownsRow_nil _ _ _ _, Below.refl _ _⟩
            case round =>
              obtain ⟨j, A, c, hj, rfl, rfl, hjc, hcm, hO, hBel⟩ := hrel
              by_cases hlt : j < ks.length
              · have hlz : (j : Int) < (ks.length : Int) := by omega
                obtain ⟨bb, off, k, rfl, hbB, hk, y0⟩ := (HKS.out.below hBel.out (Nat.le_refl _)).str_at hlt
                have HTK := Lib.hid (take_snoc hk)
                have hin := (gP_some q k).1 ((HMEM.out k).1 (List.mem_of_getElem? hk))
                obtain ⟨dd, hdd⟩ := Option.isSome_iff_exists.1 hin
                have hks : k.size ≤ 1000000 := (HSQ.out _ ((look9_some (asc_nodup HASQ.out)).1 hdd)).1
                have hsm : k.size ≤ maxLen := by unfold maxLen; omega
                have HDD := Lib.hid hdd
                have hlk : (Instr.lookup 118 (.map (some M)) (.string k) false).run Tryz.prog wr = .ok (.string dd) wr := by
                  have := (HM9.out.below hBel.out hML).look (t := 118) Tryz.underlying9 Tryz.underlying118 (Tryz.zeroValue9 _) (s := k) hsm
                  rw [this]
                  unfold gP
                  rw [hdd]; rfl
                have zZ : Z ≤ wr.heap.size := by have := hBel.out.size; have := HZZ.out; omega
                have HOWN : Hid ((wr.alloc (.cells #[.string k, .string dd] 68)).ownsRow Z 68 2 (.slice A j c) j (flat flC ((ks.take j).map (fun k => ((k, (lookF9 q k).getD eB) : Fl))))) := ownsRow_upon hO.out ((Below.refl _ wr).alloc (Nat.le_refl _) _)
                have HNW : Hid (Sl (wr.alloc (.cells #[.string k, .string dd] 68)) (wr.heap.size + 1) 2 (some ⟨wr.heap.size, 0, none⟩) 1 (flC (k, dd))) := by
                  have h1 := Sl.of_bk (n := 1) (size := 2) (Bk.new wr 68 #[.string k, .string dd]) rfl
                  simp only [World.size_alloc] at h1
                  exact h1
                have HGE : Hid (∀ k, (Value.slice A j c).ownBlock = some k → Z ≤ k) := fun k hk => ownBlock_ge hO.out k hk
                have HB1' : Hid (Below Z w6 (wr.alloc (.cells #[.string k, .string dd] 68))) := hBel.out.alloc zZ _
                have L1 : Hid (j + 1 ≤ maxLen) := by show _ ≤ _; unfold maxLen; omega
                have L2 : Hid ((j + 1) * 32 ≤ 140737488355328) := by show _ ≤ _; omega
                have L3 : Hid (Z ≤ (wr.alloc (.cells #[.string k, .string dd] 68)).heap.size) := by show _ ≤ _; simp; omega
                clear hk hin hdd hBel
                go_wp2_with (at_builtin; refine halt_ ?_)
                refine unhalt ?_
                refine wpList_append_sl (base := Z) (size := 2) _ rfl (.tmp 68) (.tmp 74) 24 rfl 68 i0 _ 32 Tryz.underlying24 Hi.out Hz0.out Hz1.out Hz2.out rfl (by decide) (.slice A j c) j (flat flC ((ks.take j).map (fun k => ((k, (lookF9 q k).getD eB) : Fl)))) rfl HOWN.out (wr.heap.size + 1) _ 1 _ (flC (k, dd)) rfl HNW.out (by simp [flC, Value.oneCell']) L1.out L2.out L3.out ?_
                intro A4 c4 w4 ho4 hg4 hc41 hc42
                have HO4 : Hid (w4.ownsRow Z 68 2 (.slice A4 (j + 1) c4) (j + 1) (flat flC ((ks.take (j + 1)).map (fun k => ((k, (lookF9 q k).getD eB) : Fl))))) := by
                  show World.ownsRow _ _ _ _ _ _ _
                  rw [HTK.out, List.map_append, flat_append]
                  have e : flat flC ([k].map (fun k => ((k, (lookF9 q k).getD eB) : Fl))) = flC (k, dd) := by simp [flat, HDD.out]
                  rw [e]; exact ho4
                have HB4 : Hid (Below Z w6 w4) := HB1'.out.grown hg4 L3.out (fun k hk => HGE.out k hk)
                clear ho4 hg4 hO
                go_wp2_with fail
                refine ⟨⟨j + 1, A4, c4, hlt, by go_num, rfl, hc41, hc42, HO4.out, HB4.out⟩, ?_⟩
                simp [intOf]; omega
              · have hlz : ¬ (j : Int) < (ks.length : Int) := by omega
                have hje : j = ks.length := by omega
                have HROW : Hid (Sl wr wr.heap.size 2 A j (flat flC q)) := by
                  have := Sl.of_own hO.out
                  rw [hje, List.take_length, HFO.out] at this
                  rw [hje]; exact this
                have hjq : j = q.length := by rw [hje, ← HFO.out, List.length_map]
                have HJQ := Lib.hid hjq
                obtain ⟨wq, hwq⟩ : ∃ wq, wq = wr := ⟨_, rfl⟩
                subst hwq
                have HBF : Hid (Below w.heap.size w wq) := HB2.out.trans ((HB9.out.trans (hBel.out.mono (by have := HZZ.out; omega))).mono (by have := HB2.out.size; have := HMM.out; omega))
                have HC := Lib.hid (tcheck_any A j c wq.heap.size q wq HROW.out (Nat.le_refl _) (by omega) HSQ.out)
                clear hO hBel hje hjq
                go_wp2_with fail
                refine HC.out.mono ?_
                rintro e w7 ⟨z, rfl, hz, hb⟩
                have HZ7 := Lib.hid hz
                have HBG : Hid (Below w.heap.size w w7) := HBF.out.trans (hb.mono HBF.out.size)
                have HR7 := Lib.hid (sl_on HROW.out hb)
                clear hz hb HC
                by_cases h0 : z = 0
                · subst h0
                  go_wp2_with fail
                  go_ret2
                  have hr := HR7.out
                  have hj2 := HJQ.out
                  subst hj2
                  exact ⟨⟨q, 0, .inr ⟨HZ.out, .inr ⟨by rw [HPD.out], .inr ⟨by rw [HPD.out]; exact HZ7.out, rfl, by rw [HPD.out]⟩⟩⟩, .inr ⟨rfl, A, c, rfl, hr, hjc, hcm⟩⟩, HBG.out⟩
                · have t1 : (z != 0) = true := by rw [bne_iff_ne]; exact h0
                  have H0' := Lib.hid h0
                  clear h0
                  go_wp2_with fail
                  go_ret2
                  exact ⟨⟨q, z, .inr ⟨HZ.out, .inr ⟨by rw [HPD.out], .inl ⟨z, by rw [HPD.out]; exact HZ7.out, H0'.out, rfl⟩⟩⟩, .inl ⟨H0'.out, rfl⟩⟩, HBG.out⟩
end Go.Proofs.YtmdhlkkekidknaaGreatDoor
