/-
  Lemmas: tree.checkChange. The reference's comparing of files, of pools and of changes. cordwoodlaw09.awake. What is stored of small files is small; in plain Lean. The reference's bounds on files (XGr9's first part, for seats without graph.checkTarget). TreeSharing: the law. tree.Diff. tree.Patch. tree.Patch: the walk. TreePatch and TreeRoundTrip in plain Lean: what Diff and Patch answer on what is stored.
-/
import Derived.Deep.QuietTactic
import Derived.BigQuiet
import Derived.Laws.StructEq
import Derived.Test.YtmdhlkkekidknaaGreatDoorU10

namespace Go.Proofs.YtmdhlkkekidknaaGreatDoor
open Go.RowKit

theorem Sl.fc {w : World} {B n k : Nat} {A : Option Addr} {l : List FCh} (h : Sl w B 5 A n (flat fcC l)) (hk : k < n) :
    ∃ b off x, A = some ⟨b, off, none⟩ ∧ b < B ∧ l[k]? = some x ∧ w.cell? ⟨b, off + k * 5, none⟩ = some (.string x.path) ∧ w.cell? ⟨b, off + k * 5 + 1, none⟩ = some (.bool x.ho) ∧ w.cell? ⟨b, off + k * 5 + 2, none⟩ = some (.bool x.hn) ∧ w.cell? ⟨b, off + k * 5 + 3, none⟩ = some (.string x.old) ∧ w.cell? ⟨b, off + k * 5 + 4, none⟩ = some (.string x.new) := by
  obtain ⟨b, off, x, e, hb, hx, hc⟩ := h.at_ fcC_len (by omega) hk
  exact ⟨b, off, x, e, hb, hx, hc 0 _ rfl, hc 1 _ rfl, hc 2 _ rfl, hc 3 _ rfl, hc 4 _ rfl⟩
set_option maxRecDepth 100000 in
set_option maxHeartbeats 16000000 in
theorem ckc_any (A1 A2 : Option Addr) (m c1 n c2 B j : Nat) (l : List Fl) (c : List FCh) (x : FCh) (w : World) (h1 : Sl w B 2 A1 m (flat flC l)) (h2 : Sl w B 5 A2 n (flat fcC c)) (hB : B ≤ w.heap.size) (hm : m ≤ 1000000) (hn : n ≤ 1000000) (ha : AscF l) (hx : c[j]? = some x) (hsz : x.path.size ≤ 1000000) :
    Calls Tryz.prog 80 #[.slice A1 m c1, .slice A2 n c2, .int .i64 (j : Int)] w fun e w' => e = .returned (.int .i64 (ckC l (prevC c j) x)) ∧ Below w.heap.size w w' := by
  have hlc := h2.len fcC_len (by omega)
  have hjn : j < n := by have := (List.getElem?_eq_some_iff.1 hx).1; omega
  have HX := Lib.hid hx; have HA := Lib.hid ha; have H1 := Lib.hid h1; have H2 := Lib.hid h2
  obtain ⟨b2, off2, x', rfl, hb2, hx', c0, c1', c2', c3, c4⟩ := h2.fc hjn
  rw [hx] at hx'
  injection hx' with hx'
  subst hx'
  obtain ⟨R, hR⟩ : ∃ R, ckC l (prevC c j) x = R := ⟨_, rfl⟩
  rw [hR]
  have HR := Lib.hid hR
  clear hx ha h1 h2 hR
  obtain ⟨s, ho, hn', old, new⟩ := x
  simp only at c0 c1' c2' c3 c4 hsz
  obtain ⟨W, hW⟩ : ∃ W, w.alloc (.cells #[.string s, .bool ho, .bool hn', .string old, .string new] 112) = W := ⟨_, rfl⟩
  have HB0 : Hid (Below w.heap.size w W) := by rw [← hW]; exact (Below.refl _ w).alloc (Nat.le_refl _) _
  have HK0 : Hid (Bk W w.heap.size 112 #[.string s, .bool ho, .bool hn', .string old, .string new]) := by rw [← hW]; exact Bk.new w _ _
  have HP := Lib.hid (isPath_any s W (by unfold maxLen; omega))
  obtain ⟨pb, hpb⟩ : ∃ pb, pathB s = pb := ⟨_, rfl⟩
  rw [hpb] at HP
  have HPB := Lib.hid hpb
  have HW := Lib.hid hW
  clear hpb hW
  go_enter Tryz.func80, Tryz.ntmps80
  go_wp2_with fail
  rw [HW.out]
  refine HP.out.mono ?_
  rintro e w1 ⟨rfl, hb⟩
  have HB1 : Hid (Below w.heap.size w w1) := HB0.out.trans (hb.mono HB0.out.size)
  have HK1 := Lib.hid (HK0.out.below hb HK0.out.lt)
  have zk : w.heap.size < w1.heap.size := HK1.out.lt
  clear hb HP HK0 HB0 HW c0 c1' c2' c3 c4
  cases pb with
  | false =>
    have HE : Hid (R = 6) := by show _ = _; rw [← HR.out]; unfold ckC; rw [if_pos HPB.out]
    go_wp2_with fail
    go_ret
    exact ⟨by rw [HE.out]; rfl, HB1.out⟩
  | true =>
    have HE : Hid (R = if badC ⟨s, ho, hn', old, new⟩ = true then 1 else if ordC (prevC c j) ⟨s, ho, hn', old, new⟩ = false then 10 else if (lookF9 l s).isSome ≠ ho ∨ (lookF9 l s).getD eB ≠ old then 17 else 0) := by
      show _ = _
      rw [← HR.out]; unfold ckC; rw [if_neg (by rw [HPB.out]; simp)]
    obtain ⟨y0, y1, y2, y3, y4⟩ : w1.cell? ⟨w.heap.size, 0, none⟩ = some (.string s) ∧ w1.cell? ⟨w.heap.size, 1, none⟩ = some (.bool ho) ∧ w1.cell? ⟨w.heap.size, 2, none⟩ = some (.bool hn') ∧ w1.cell? ⟨w.heap.size, 3, none⟩ = some (.string old) ∧ w1.cell? ⟨w.heap.size, 4, none⟩ = some (.string new) := ⟨HK1.out.cell 0, HK1.out.cell 1, HK1.out.cell 2, HK1.out.cell 3, HK1.out.cell 4⟩
    cases ho
    case false =>
      cases hn'
      case false =>
        go_wp2_with fail
        go_ret
        exact ⟨by rw [HE.out]; rfl, HB1.out⟩
      case true =>
        by_cases ho' : old = eB
        · have e1 : old.toList.isEmpty = true := by rw [ho', ByteArray.toList_eq]; rfl
          have HE2 : Hid (badC ⟨s, false, true, old, new⟩ = false) := by show _ = _; unfold badC; simp [ho']
          have HOE := Lib.hid ho'
          clear ho'
          go_wp2_with fail
          by_cases hj : j = 0
          · subst hj
            have HE3 : Hid (R = if (lookF9 l s).isSome ≠ false ∨ (lookF9 l s).getD eB ≠ old then 17 else 0) := by
              have := HE.out; rw [if_neg (by rw [HE2.out]; simp)] at this
              exact this
            go_region
            have HF := Lib.hid (tfind_any A1 m c1 w1.heap.size l s w1.drew (((H1.out.below HB1.out hB).more (Nat.le_trans hB HB1.out.size)).drew) (Nat.le_refl _) hm HA.out)
            unfold TfE at HF
            obtain ⟨ai, hai⟩ : ∃ ai, atF l s = ai := ⟨_, rfl⟩
            rw [hai] at HF
            have HAI := Lib.hid hai
            clear hai
            cases hlk : lookF9 l s with
            | none =>
              rw [hlk] at HF HE3
              simp only [Option.isSome_none] at HF
              clear hlk
              go_wp2_with fail
              refine HF.out.mono ?_
              rintro e w2 ⟨rfl, hb⟩
              have HB2 : Hid (Below w.heap.size w w2) := HB1.out.drew.trans (hb.mono HB1.out.size)
              have HK2 := Lib.hid (HK1.out.drew.below hb zk)
              clear hb HF y0 y1 y2 y3 y4
              obtain ⟨y0, y1, y2, y3, y4⟩ : w2.cell? ⟨w.heap.size, 0, none⟩ = some (.string s) ∧ w2.cell? ⟨w.heap.size, 1, none⟩ = some (.bool false) ∧ w2.cell? ⟨w.heap.size, 2, none⟩ = some (.bool true) ∧ w2.cell? ⟨w.heap.size, 3, none⟩ = some (.string old) ∧ w2.cell? ⟨w.heap.size, 4, none⟩ = some (.string new) := ⟨HK2.out.cell 0, HK2.out.cell 1, HK2.out.cell 2, HK2.out.cell 3, HK2.out.cell 4⟩
              have HE9 : Hid (R = 0) := by show _ = _; rw [HE3.out, if_neg]; simp [HOE.out]
              go_wp2_with fail
              go_region
              go_wp2_with fail
              go_ret
              exact ⟨by rw [HE9.out]; rfl, HB2.out.drew⟩
            | some dd =>
              have HLK := Lib.hid hlk
              rw [hlk] at HF HE3
              simp only [Option.isSome_some] at HF
              clear hlk
              go_wp2_with fail
              refine HF.out.mono ?_
              rintro e w2 ⟨rfl, hb⟩
              have HB2 : Hid (Below w.heap.size w w2) := HB1.out.drew.trans (hb.mono HB1.out.size)
              have HK2 := Lib.hid (HK1.out.drew.below hb zk)
              clear hb HF y0 y1 y2 y3 y4
              obtain ⟨y0, y1, y2, y3, y4⟩ : w2.cell? ⟨w.heap.size, 0, none⟩ = some (.string s) ∧ w2.cell? ⟨w.heap.size, 1, none⟩ = some (.bool false) ∧ w2.cell? ⟨w.heap.size, 2, none⟩ = some (.bool true) ∧ w2.cell? ⟨w.heap.size, 3, none⟩ = some (.string old) ∧ w2.cell? ⟨w.heap.size, 4, none⟩ = some (.string new) := ⟨HK2.out.cell 0, HK2.out.cell 1, HK2.out.cell 2, HK2.out.cell 3, HK2.out.cell 4⟩
              have HE9 : Hid (R = 17) := by show _ = _; rw [HE3.out, if_pos]; simp
              go_wp2_with fail
              go_region
              go_wp2_with fail
              go_ret
              exact ⟨by rw [HE9.out]; rfl, HB2.out.drew⟩
          · obtain ⟨k, rfl⟩ : ∃ k, j = k + 1 := ⟨j - 1, by omega⟩
            obtain ⟨b3, off3, xp, hA3, hb3, hxp, z0, _⟩ := (H2.out.below HB1.out hB).fc (k := k) (by omega)
            injection hA3 with hA3
            injection hA3 with hA3 hA4
            subst hA3; subst hA4
            obtain ⟨prev, r1, r2, r3, r4⟩ := xp
            simp only at z0
            have HPV : Hid (prevC c (k + 1) = some prev) := by
              show _ = _
              unfold prevC; rw [if_neg (by omega), Nat.add_sub_cancel, hxp]; rfl
            have hk1 : IntKind.i64.wrap (k : Int) = (k : Int) := by rw [IntKind.wrap_i64]; omega
            have hkn : k < n := by omega
            obtain ⟨lt, hlt⟩ : ∃ lt, less prev s = lt := ⟨_, rfl⟩
            have HLT := Lib.hid hlt
            clear hxp hlt
            cases lt
            case false =>
              have hl2 : (Op.bytesLess s.toList prev.toList || s.toList == prev.toList) = true := by
                rw [less_str, str_dec]
                cases h : less s prev with
                | true => rfl
                | false => rw [lessB_conn h HLT.out]; simp
              have HE4 : Hid (R = 10) := by
                show _ = _
                rw [HE.out, if_neg (by rw [HE2.out]; simp), if_pos]
                rw [HPV.out]; exact HLT.out
              go_region
              go_wp2_with fail
              go_ret
              exact ⟨by rw [HE4.out]; rfl, HB1.out.drew⟩
            case true =>
              have hl2 : Op.bytesLess s.toList prev.toList = false := by rw [less_str]; exact lessB_asymm HLT.out
              have hl3 : (s.toList == prev.toList) = false := str_ne (fun e => lessB_ne HLT.out e.symm)
              have HE3 : Hid (R = if (lookF9 l s).isSome ≠ false ∨ (lookF9 l s).getD eB ≠ old then 17 else 0) := by
                show _ = _
                rw [HE.out, if_neg (by rw [HE2.out]; simp), if_neg]
                rw [HPV.out]; show ¬ less prev s = false; rw [HLT.out]; simp
              go_region
              have HF := Lib.hid (tfind_any A1 m c1 w1.heap.size l s w1.drew (((H1.out.below HB1.out hB).more (Nat.le_trans hB HB1.out.size)).drew) (Nat.le_refl _) hm HA.out)
              unfold TfE at HF
              obtain ⟨ai, hai⟩ : ∃ ai, atF l s = ai := ⟨_, rfl⟩
              rw [hai] at HF
              have HAI := Lib.hid hai
              clear hai
              cases hlk : lookF9 l s with
              | none =>
                rw [hlk] at HF HE3
                simp only [Option.isSome_none] at HF
                clear hlk
                go_wp2_with fail
                refine HF.out.mono ?_
                rintro e w2 ⟨rfl, hb⟩
                have HB2 : Hid (Below w.heap.size w w2) := HB1.out.drew.trans (hb.mono HB1.out.size)
                have HK2 := Lib.hid (HK1.out.drew.below hb zk)
                clear hb HF y0 y1 y2 y3 y4
                obtain ⟨y0, y1, y2, y3, y4⟩ : w2.cell? ⟨w.heap.size, 0, none⟩ = some (.string s) ∧ w2.cell? ⟨w.heap.size, 1, none⟩ = some (.bool false) ∧ w2.cell? ⟨w.heap.size, 2, none⟩ = some (.bool true) ∧ w2.cell? ⟨w.heap.size, 3, none⟩ = some (.string old) ∧ w2.cell? ⟨w.heap.size, 4, none⟩ = some (.string new) := ⟨HK2.out.cell 0, HK2.out.cell 1, HK2.out.cell 2, HK2.out.cell 3, HK2.out.cell 4⟩
                have HE9 : Hid (R = 0) := by show _ = _; rw [HE3.out, if_neg]; simp [HOE.out]
                go_wp2_with fail
                go_region
                go_wp2_with fail
                go_ret
                exact ⟨by rw [HE9.out]; rfl, HB2.out.drew⟩
              | some dd =>
                have HLK := Lib.hid hlk
                rw [hlk] at HF HE3
                simp only [Option.isSome_some] at HF
                clear hlk
                go_wp2_with fail
                refine HF.out.mono ?_
                rintro e w2 ⟨rfl, hb⟩
                have HB2 : Hid (Below w.heap.size w w2) := HB1.out.drew.trans (hb.mono HB1.out.size)
                have HK2 := Lib.hid (HK1.out.drew.below hb zk)
                clear hb HF y0 y1 y2 y3 y4
                obtain ⟨y0, y1, y2, y3, y4⟩ : w2.cell? ⟨w.heap.size, 0, none⟩ = some (.string s) ∧ w2.cell? ⟨w.heap.size, 1, none⟩ = some (.bool false) ∧ w2.cell? ⟨w.heap.size, 2, none⟩ = some (.bool true) ∧ w2.cell? ⟨w.heap.size, 3, none⟩ = some (.string old) ∧ w2.cell? ⟨w.heap.size, 4, none⟩ = some (.string new) := ⟨HK2.out.cell 0, HK2.out.cell 1, HK2.out.cell 2, HK2.out.cell 3, HK2.out.cell 4⟩
                have HE9 : Hid (R = 17) := by show _ = _; rw [HE3.out, if_pos]; simp
                go_wp2_with fail
                go_region
                go_wp2_with fail
                go_ret
                exact ⟨by rw [HE9.out]; rfl, HB2.out.drew⟩
        · have e1 : old.toList.isEmpty = false := str_emp ho'
          have HE2 : Hid (badC ⟨s, false, true, old, new⟩ = true) := by show _ = _; unfold badC; simp [ho']
          clear ho'
          go_wp2_with fail
          go_ret
          exact ⟨by rw [HE.out, if_pos HE2.out]; rfl, HB1.out⟩
    case true =>
      cases hn'
      case true =>
        have HE2 : Hid (badC ⟨s, true, true, old, new⟩ = false) := by show _ = _; unfold badC; simp
        go_wp2_with fail
        by_cases hj : j = 0
        · subst hj
          have HE3 : Hid (R = if (lookF9 l s).isSome ≠ true ∨ (lookF9 l s).getD eB ≠ old then 17 else 0) := by
            have := HE.out; rw [if_neg (by rw [HE2.out]; simp)] at this
            exact this
          go_region
          have HF := Lib.hid (tfind_any A1 m c1 w1.heap.size l s w1.drew (((H1.out.below HB1.out hB).more (Nat.le_trans hB HB1.out.size)).drew) (Nat.le_refl _) hm HA.out)
          unfold TfE at HF
          obtain ⟨ai, hai⟩ : ∃ ai, atF l s = ai := ⟨_, rfl⟩
          rw [hai] at HF
          have HAI := Lib.hid hai
          clear hai
          cases hlk : lookF9 l s with
          | none =>
            rw [hlk] at HF HE3
            simp only [Option.isSome_none] at HF
            clear hlk
            go_wp2_with fail
            refine HF.out.mono ?_
            rintro e w2 ⟨rfl, hb⟩
            have HB2 : Hid (Below w.heap.size w w2) := HB1.out.drew.trans (hb.mono HB1.out.size)
            have HK2 := Lib.hid (HK1.out.drew.below hb zk)
            clear hb HF y0 y1 y2 y3 y4
            obtain ⟨y0, y1, y2, y3, y4⟩ : w2.cell? ⟨w.heap.size, 0, none⟩ = some (.string s) ∧ w2.cell? ⟨w.heap.size, 1, none⟩ = some (.bool true) ∧ w2.cell? ⟨w.heap.size, 2, none⟩ = some (.bool true) ∧ w2.cell? ⟨w.heap.size, 3, none⟩ = some (.string old) ∧ w2.cell? ⟨w.heap.size, 4, none⟩ = some (.string new) := ⟨HK2.out.cell 0, HK2.out.cell 1, HK2.out.cell 2, HK2.out.cell 3, HK2.out.cell 4⟩
            have HE9 : Hid (R = 17) := by show _ = _; rw [HE3.out, if_pos]; simp
            go_wp2_with fail
            go_region
            go_wp2_with fail
            go_ret
            exact ⟨by rw [HE9.out]; rfl, HB2.out.drew⟩
          | some dd =>
            have HLK := Lib.hid hlk
            rw [hlk] at HF HE3
            simp only [Option.isSome_some] at HF
            clear hlk
            go_wp2_with fail
            refine HF.out.mono ?_
            rintro e w2 ⟨rfl, hb⟩
            have HB2 : Hid (Below w.heap.size w w2) := HB1.out.drew.trans (hb.mono HB1.out.size)
            have HK2 := Lib.hid (HK1.out.drew.below hb zk)
            clear hb HF y0 y1 y2 y3 y4
            obtain ⟨y0, y1, y2, y3, y4⟩ : w2.cell? ⟨w.heap.size, 0, none⟩ = some (.string s) ∧ w2.cell? ⟨w.heap.size, 1, none⟩ = some (.bool true) ∧ w2.cell? ⟨w.heap.size, 2, none⟩ = some (.bool true) ∧ w2.cell? ⟨w.heap.size, 3, none⟩ = some (.string old) ∧ w2.cell? ⟨w.heap.size, 4, none⟩ = some (.string new) := ⟨HK2.out.cell 0, HK2.out.cell 1, HK2.out.cell 2, HK2.out.cell 3, HK2.out.cell 4⟩
            have hal : ai < m := by
              rcases Nat.lt_or_ge ai m with h | h
              · exact h
              · have hlm := H1.out.len flC_len (by omega)
                have := look_end HA.out (s := s) (by rw [HAI.out]; omega)
                rw [HLK.out] at this; cases this
            obtain ⟨b4, off4, f4, hA4, hb4, hf4, q0, q1⟩ := (H1.out.below HB2.out hB).fl hal
            have HFD : Hid (f4.2 = dd) := by
              have := look_at HA.out (s := s) (g := f4) (by rw [HAI.out]; exact hf4)
              rw [HLK.out] at this
              split at this
              · injection this with this; exact this.symm
              · cases this
            rw [HFD.out] at q1
            subst hA4
            clear hf4 q0
            by_cases hdo : dd = old
            · have hdd : (dd.toList == old.toList) = true := by rw [hdo]; simp
              have HE9 : Hid (R = 0) := by show _ = _; rw [HE3.out, if_neg]; simp [hdo]
              clear hdo
              go_wp2_with fail
              go_region
              go_wp2_with fail
              go_ret
              exact ⟨by rw [HE9.out]; rfl, HB2.out.drew⟩
            · have hdd : (dd.toList == old.toList) = false := str_ne hdo
              have HE9 : Hid (R = 17) := by show _ = _; rw [HE3.out, if_pos]; simp [hdo]
              clear hdo
              go_wp2_with fail
              go_region
              go_wp2_with fail
              go_ret
              exact ⟨by rw [HE9.out]; rfl, HB2.out.drew⟩
        · obtain ⟨k, rfl⟩ : ∃ k, j = k + 1 := ⟨j - 1, by omega⟩
          obtain ⟨b3, off3, xp, hA3, hb3, hxp, z0, _⟩ := (H2.out.below HB1.out hB).fc (k := k) (by omega)
          injection hA3 with hA3
          injection hA3 with hA3 hA4
          subst hA3; subst hA4
          obtain ⟨prev, r1, r2, r3, r4⟩ := xp
          simp only at z0
          have HPV : Hid (prevC c (k + 1) = some prev) := by
            show _ = _
            unfold prevC; rw [if_neg (by omega), Nat.add_sub_cancel, hxp]; rfl
          have hk1 : IntKind.i64.wrap (k : Int) = (k : Int) := by rw [IntKind.wrap_i64]; omega
          have hkn : k < n := by omega
          obtain ⟨lt, hlt⟩ : ∃ lt, less prev s = lt := ⟨_, rfl⟩
          have HLT := Lib.hid hlt
          clear hxp hlt
          cases lt
          case false =>
            have hl2 : (Op.bytesLess s.toList prev.toList || s.toList == prev.toList) = true := by
              rw [less_str, str_dec]
              cases h : less s prev with
              | true => rfl
              | false => rw [lessB_conn h HLT.out]; simp
            have HE4 : Hid (R = 10) := by
              show _ = _
              rw [HE.out, if_neg (by rw [HE2.out]; simp), if_pos]
              rw [HPV.out]; exact HLT.out
            go_region
            go_wp2_with fail
            go_ret
            exact ⟨by rw [HE4.out]; rfl, HB1.out.drew⟩
          case true =>
            have hl2 : Op.bytesLess s.toList prev.toList = false := by rw [less_str]; exact lessB_asymm HLT.out
            have hl3 : (s.toList == prev.toList) = false := str_ne (fun e => lessB_ne HLT.out e.symm)
            have HE3 : Hid (R = if (lookF9 l s).isSome ≠ true ∨ (lookF9 l s).getD eB ≠ old then 17 else 0) := by
              show _ = _
              rw [HE.out, if_neg (by rw [HE2.out]; simp), if_neg]
              rw [HPV.out]; show ¬ less prev s = false; rw [HLT.out]; simp
            go_region
            have HF := Lib.hid (tfind_any A1 m c1 w1.heap.size l s w1.drew (((H1.out.below HB1.out hB).more (Nat.le_trans hB HB1.out.size)).drew) (Nat.le_refl _) hm HA.out)
            unfold TfE at HF
            obtain ⟨ai, hai⟩ : ∃ ai, atF l s = ai := ⟨_, rfl⟩
            rw [hai] at HF
            have HAI := Lib.hid hai
            clear hai
            cases hlk : lookF9 l s with
            | none =>
              rw [hlk] at HF HE3
              simp only [Option.isSome_none] at HF
              clear hlk
              go_wp2_with fail
              refine HF.out.mono ?_
              rintro e w2 ⟨rfl, hb⟩
              have HB2 : Hid (Below w.heap.size w w2) := HB1.out.drew.trans (hb.mono HB1.out.size)
              have HK2 := Lib.hid (HK1.out.drew.below hb zk)
              clear hb HF y0 y1 y2 y3 y4
              obtain ⟨y0, y1, y2, y3, y4⟩ : w2.cell? ⟨w.heap.size, 0, none⟩ = some (.string s) ∧ w2.cell? ⟨w.heap.size, 1, none⟩ = some (.bool true) ∧ w2.cell? ⟨w.heap.size, 2, none⟩ = some (.bool true) ∧ w2.cell? ⟨w.heap.size, 3, none⟩ = some (.string old) ∧ w2.cell? ⟨w.heap.size, 4, none⟩ = some (.string new) := ⟨HK2.out.cell 0, HK2.out.cell 1, HK2.out.cell 2, HK2.out.cell 3, HK2.out.cell 4⟩
              have HE9 : Hid (R = 17) := by show _ = _; rw [HE3.out, if_pos]; simp
              go_wp2_with fail
              go_region
              go_wp2_with fail
              go_ret
              exact ⟨by rw [HE9.out]; rfl, HB2.out.drew⟩
            | some dd =>
              have HLK := Lib.hid hlk
              rw [hlk] at HF HE3
              simp only [Option.isSome_some] at HF
              clear hlk
              go_wp2_with fail
              refine HF.out.mono ?_
              rintro e w2 ⟨rfl, hb⟩
              have HB2 : Hid (Below w.heap.size w w2) := HB1.out.drew.trans (hb.mono HB1.out.size)
              have HK2 := Lib.hid (HK1.out.drew.below hb zk)
              clear hb HF y0 y1 y2 y3 y4
              obtain ⟨y0, y1, y2, y3, y4⟩ : w2.cell? ⟨w.heap.size, 0, none⟩ = some (.string s) ∧ w2.cell? ⟨w.heap.size, 1, none⟩ = some (.bool true) ∧ w2.cell? ⟨w.heap.size, 2, none⟩ = some (.bool true) ∧ w2.cell? ⟨w.heap.size, 3, none⟩ = some (.string old) ∧ w2.cell? ⟨w.heap.size, 4, none⟩ = some (.string new) := ⟨HK2.out.cell 0, HK2.out.cell 1, HK2.out.cell 2, HK2.out.cell 3, HK2.out.cell 4⟩
              have hal : ai < m := by
                rcases Nat.lt_or_ge ai m with h | h
                · exact h
                · have hlm := H1.out.len flC_len (by omega)
                  have := look_end HA.out (s := s) (by rw [HAI.out]; omega)
                  rw [HLK.out] at this; cases this
              obtain ⟨b4, off4, f4, hA4, hb4, hf4, q0, q1⟩ := (H1.out.below HB2.out hB).fl hal
              have HFD : Hid (f4.2 = dd) := by
                have := look_at HA.out (s := s) (g := f4) (by rw [HAI.out]; exact hf4)
                rw [HLK.out] at this
                split at this
                · injection this with this; exact this.symm
                · cases this
              rw [HFD.out] at q1
              subst hA4
              clear hf4 q0
              by_cases hdo : dd = old
              · have hdd : (dd.toList == old.toList) = true := by rw [hdo]; simp
                have HE9 : Hid (R = 0) := by show _ = _; rw [HE3.out, if_neg]; simp [hdo]
                clear hdo
                go_wp2_with fail
                go_region
                go_wp2_with fail
                go_ret
                exact ⟨by rw [HE9.out]; rfl, HB2.out.drew⟩
              · have hdd : (dd.toList == old.toList) = false := str_ne hdo
                have HE9 : Hid (R = 17) := by show _ = _; rw [HE3.out, if_pos]; simp [hdo]
                clear hdo
                go_wp2_with fail
                go_region
                go_wp2_with fail
                go_ret
                exact ⟨by rw [HE9.out]; rfl, HB2.out.drew⟩
      case false =>
        by_cases ho' : new = eB
        · have e1 : new.toList.isEmpty = true := by rw [ho', ByteArray.toList_eq]; rfl
          have HE2 : Hid (badC ⟨s, true, false, old, new⟩ = false) := by show _ = _; unfold badC; simp [ho']
          clear ho'
          go_wp2_with fail
          by_cases hj : j = 0
          · subst hj
            have HE3 : Hid (R = if (lookF9 l s).isSome ≠ true ∨ (lookF9 l s).getD eB ≠ old then 17 else 0) := by
              have := HE.out; rw [if_neg (by rw [HE2.out]; simp)] at this
              exact this
            go_region
            have HF := Lib.hid (tfind_any A1 m c1 w1.heap.size l s w1.drew (((H1.out.below HB1.out hB).more (Nat.le_trans hB HB1.out.size)).drew) (Nat.le_refl _) hm HA.out)
            unfold TfE at HF
            obtain ⟨ai, hai⟩ : ∃ ai, atF l s = ai := ⟨_, rfl⟩
            rw [hai] at HF
            have HAI := Lib.hid hai
            clear hai
            cases hlk : lookF9 l s with
            | none =>
              rw [hlk] at HF HE3
              simp only [Option.isSome_none] at HF
              clear hlk
              go_wp2_with fail
              refine HF.out.mono ?_
              rintro e w2 ⟨rfl, hb⟩
              have HB2 : Hid (Below w.heap.size w w2) := HB1.out.drew.trans (hb.mono HB1.out.size)
              have HK2 := Lib.hid (HK1.out.drew.below hb zk)
              clear hb HF y0 y1 y2 y3 y4
              obtain ⟨y0, y1, y2, y3, y4⟩ : w2.cell? ⟨w.heap.size, 0, none⟩ = some (.string s) ∧ w2.cell? ⟨w.heap.size, 1, none⟩ = some (.bool true) ∧ w2.cell? ⟨w.heap.size, 2, none⟩ = some (.bool false) ∧ w2.cell? ⟨w.heap.size, 3, none⟩ = some (.string old) ∧ w2.cell? ⟨w.heap.size, 4, none⟩ = some (.string new) := ⟨HK2.out.cell 0, HK2.out.cell 1, HK2.out.cell 2, HK2.out.cell 3, HK2.out.cell 4⟩
              have HE9 : Hid (R = 17) := by show _ = _; rw [HE3.out, if_pos]; simp
              go_wp2_with fail
              go_region
              go_wp2_with fail
              go_ret
              exact ⟨by rw [HE9.out]; rfl, HB2.out.drew⟩
            | some dd =>
              have HLK := Lib.hid hlk
              rw [hlk] at HF HE3
              simp only [Option.isSome_some] at HF
              clear hlk
              go_wp2_with fail
              refine HF.out.mono ?_
              rintro e w2 ⟨rfl, hb⟩
              have HB2 : Hid (Below w.heap.size w w2) := HB1.out.drew.trans (hb.mono HB1.out.size)
              have HK2 := Lib.hid (HK1.out.drew.below hb zk)
              clear hb HF y0 y1 y2 y3 y4
              obtain ⟨y0, y1, y2, y3, y4⟩ : w2.cell? ⟨w.heap.size, 0, none⟩ = some (.string s) ∧ w2.cell? ⟨w.heap.size, 1, none⟩ = some (.bool true) ∧ w2.cell? ⟨w.heap.size, 2, none⟩ = some (.bool false) ∧ w2.cell? ⟨w.heap.size, 3, none⟩ = some (.string old) ∧ w2.cell? ⟨w.heap.size, 4, none⟩ = some (.string new) := ⟨HK2.out.cell 0, HK2.out.cell 1, HK2.out.cell 2, HK2.out.cell 3, HK2.out.cell 4⟩
              have hal : ai < m := by
                rcases Nat.lt_or_ge ai m with h | h
                · exact h
                · have hlm := H1.out.len flC_len (by omega)
                  have := look_end HA.out (s := s) (by rw [HAI.out]; omega)
                  rw [HLK.out] at this; cases this
              obtain ⟨b4, off4, f4, hA4, hb4, hf4, q0, q1⟩ := (H1.out.below HB2.out hB).fl hal
              have HFD : Hid (f4.2 = dd) := by
                have := look_at HA.out (s := s) (g := f4) (by rw [HAI.out]; exact hf4)
                rw [HLK.out] at this
                split at this
                · injection this with this; exact this.symm
                · cases this
              rw [HFD.out] at q1
              subst hA4
              clear hf4 q0
              by_cases hdo : dd = old
              · have hdd : (dd.toList == old.toList) = true := by rw [hdo]; simp
                have HE9 : Hid (R = 0) := by show _ = _; rw [HE3.out, if_neg]; simp [hdo]
                clear hdo
                go_wp2_with fail
                go_region
                go_wp2_with fail
                go_ret
                exact ⟨by rw [HE9.out]; rfl, HB2.out.drew⟩
              · have hdd : (dd.toList == old.toList) = false := str_ne hdo
                have HE9 : Hid (R = 17) := by show _ = _; rw [HE3.out, if_pos]; simp [hdo]
                clear hdo
                go_wp2_with fail
                go_region
                go_wp2_with fail
                go_ret
                exact ⟨by rw [HE9.out]; rfl, HB2.out.drew⟩
          · obtain ⟨k, rfl⟩ : ∃ k, j = k + 1 := ⟨j - 1, by omega⟩
            obtain ⟨b3, off3, xp, hA3, hb3, hxp, z0, _⟩ := (H2.out.below HB1.out hB).fc (k := k) (by omega)
            injection hA3 with hA3
            injection hA3 with hA3 hA4
            subst hA3; subst hA4
            obtain ⟨prev, r1, r2, r3, r4⟩ := xp
            simp only at z0
            have HPV : Hid (prevC c (k + 1) = some prev) := by
              show _ = _
              unfold prevC; rw [if_neg (by omega), Nat.add_sub_cancel, hxp]; rfl
            have hk1 : IntKind.i64.wrap (k : Int) = (k : Int) := by rw [IntKind.wrap_i64]; omega
            have hkn : k < n := by omega
            obtain ⟨lt, hlt⟩ : ∃ lt, less prev s = lt := ⟨_, rfl⟩
            have HLT := Lib.hid hlt
            clear hxp hlt
            cases lt
            case false =>
              have hl2 : (Op.bytesLess s.toList prev.toList || s.toList == prev.toList) = true := by
                rw [less_str, str_dec]
                cases h : less s prev with
                | true => rfl
                | false => rw [lessB_conn h HLT.out]; simp
              have HE4 : Hid (R = 10) := by
                show _ = _
                rw [HE.out, if_neg (by rw [HE2.out]; simp), if_pos]
                rw [HPV.out]; exact HLT.out
              go_region
              go_wp2_with fail
              go_ret
              exact ⟨by rw [HE4.out]; rfl, HB1.out.drew⟩
            case true =>
              have hl2 : Op.bytesLess s.toList prev.toList = false := by rw [less_str]; exact lessB_asymm HLT.out
              have hl3 : (s.toList == prev.toList) = false := str_ne (fun e => lessB_ne HLT.out e.symm)
              have HE3 : Hid (R = if (lookF9 l s).isSome ≠ true ∨ (lookF9 l s).getD eB ≠ old then 17 else 0) := by
                show _ = _
                rw [HE.out, if_neg (by rw [HE2.out]; simp), if_neg]
                rw [HPV.out]; show ¬ less prev s = false; rw [HLT.out]; simp
              go_region
              have HF := Lib.hid (tfind_any A1 m c1 w1.heap.size l s w1.drew (((H1.out.below HB1.out hB).more (Nat.le_trans hB HB1.out.size)).drew) (Nat.le_refl _) hm HA.out)
              unfold TfE at HF
              obtain ⟨ai, hai⟩ : ∃ ai, atF l s = ai := ⟨_, rfl⟩
              rw [hai] at HF
              have HAI := Lib.hid hai
              clear hai
              cases hlk : lookF9 l s with
              | none =>
                rw [hlk] at HF HE3
                simp only [Option.isSome_none] at HF
                clear hlk
                go_wp2_with fail
                refine HF.out.mono ?_
                rintro e w2 ⟨rfl, hb⟩
                have HB2 : Hid (Below w.heap.size w w2) := HB1.out.drew.trans (hb.mono HB1.out.size)
                have HK2 := Lib.hid (HK1.out.drew.below hb zk)
                clear hb HF y0 y1 y2 y3 y4
                obtain ⟨y0, y1, y2, y3, y4⟩ : w2.cell? ⟨w.heap.size, 0, none⟩ = some (.string s) ∧ w2.cell? ⟨w.heap.size, 1, none⟩ = some (.bool true) ∧ w2.cell? ⟨w.heap.size, 2, none⟩ = some (.bool false) ∧ w2.cell? ⟨w.heap.size, 3, none⟩ = some (.string old) ∧ w2.cell? ⟨w.heap.size, 4, none⟩ = some (.string new) := ⟨HK2.out.cell 0, HK2.out.cell 1, HK2.out.cell 2, HK2.out.cell 3, HK2.out.cell 4⟩
                have HE9 : Hid (R = 17) := by show _ = _; rw [HE3.out, if_pos]; simp
                go_wp2_with fail
                go_region
                go_wp2_with fail
                go_ret
                exact ⟨by rw [HE9.out]; rfl, HB2.out.drew⟩
              | some dd =>
                have HLK := Lib.hid hlk
                rw [hlk] at HF HE3
                simp only [Option.isSome_some] at HF
                clear hlk
                go_wp2_with fail
                refine HF.out.mono ?_
                rintro e w2 ⟨rfl, hb⟩
                have HB2 : Hid (Below w.heap.size w w2) := HB1.out.drew.trans (hb.mono HB1.out.size)
                have HK2 := Lib.hid (HK1.out.drew.below hb zk)
                clear hb HF y0 y1 y2 y3 y4
                obtain ⟨y0, y1, y2, y3, y4⟩ : w2.cell? ⟨w.heap.size, 0, none⟩ = some (.string s) ∧ w2.cell? ⟨w.heap.size, 1, none⟩ = some (.bool true) ∧ w2.cell? ⟨w.heap.size, 2, none⟩ = some (.bool false) ∧ w2.cell? ⟨w.heap.size, 3, none⟩ = some (.string old) ∧ w2.cell? ⟨w.heap.size, 4, none⟩ = some (.string new) := ⟨HK2.out.cell 0, HK2.out.cell 1, HK2.out.cell 2, HK2.out.cell 3, HK2.out.cell 4⟩
                have hal : ai < m := by
                  rcases Nat.lt_or_ge ai m with h | h
                  · exact h
                  · have hlm := H1.out.len flC_len (by omega)
                    have := look_end HA.out (s := s) (by rw [HAI.out]; omega)
                    rw [HLK.out] at this; cases this
                obtain ⟨b4, off4, f4, hA4, hb4, hf4, q0, q1⟩ := (H1.out.below HB2.out hB).fl hal
                have HFD : Hid (f4.2 = dd) := by
                  have := look_at HA.out (s := s) (g := f4) (by rw [HAI.out]; exact hf4)
                  rw [HLK.out] at this
                  split at this
                  · injection this with this; exact this.symm
                  · cases this
                rw [HFD.out] at q1
                subst hA4
                clear hf4 q0
                by_cases hdo : dd = old
                · have hdd : (dd.toList == old.toList) = true := by rw [hdo]; simp
                  have HE9 : Hid (R = 0) := by show _ = _; rw [HE3.out, if_neg]; simp [hdo]
                  clear hdo
                  go_wp2_with fail
                  go_region
                  go_wp2_with fail
                  go_ret
                  exact ⟨by rw [HE9.out]; rfl, HB2.out.drew⟩
                · have hdd : (dd.toList == old.toList) = false := str_ne hdo
                  have HE9 : Hid (R = 17) := by show _ = _; rw [HE3.out, if_pos]; simp [hdo]
                  clear hdo
                  go_wp2_with fail
                  go_region
                  go_wp2_with fail
                  go_ret
                  exact ⟨by rw [HE9.out]; rfl, HB2.out.drew⟩
        · have e1 : new.toList.isEmpty = false := str_emp ho'
          have HE2 : Hid (badC ⟨s, true, false, old, new⟩ = true) := by show _ = _; unfold badC; simp [ho']
          clear ho'
          go_wp2_with fail
          go_ret
          exact ⟨by rw [HE.out, if_pos HE2.out]; rfl, HB1.out⟩
end Go.Proofs.YtmdhlkkekidknaaGreatDoor

namespace Go.Proofs.YtmdhlkkekidknaaGreatDoor
open Go.RowKit

@[go_sem] theorem guardIt : Tryz.prog.eqGuardType Tryz.prog.depth 38 = false := by kernel_rfl
theorem stoodIt : Tryz.prog.stoodInHeld 38 = false := by kernel_rfl
theorem eqDg1 (a b c d : Int) (w : World) : (Op.equalIn 9999 30 (.agg #[.int .u64 a, .int .u64 b]) (.agg #[.int .u64 c, .int .u64 d])).run Tryz.prog w = .ok (a == c && b == d) w := eqDig0 9997 a b c d w
@[go_sem high] theorem eqIt (a b c d : Int) (s t : ByteArray) (w : World) : (Op.equalIn 10000 38 (.agg #[.int .u64 a, .int .u64 b, .string s]) (.agg #[.int .u64 c, .int .u64 d, .string t])).run Tryz.prog w = .ok ((a == c && b == d) && s.toList == t.toList) w := by
  have hS : Tryz.prog.underlying 38 = some (.struct (Tryz.prog.fieldsOf 38)) := by kernel_rfl
  have a9 := Tryz.isAgg9
  have u9 := Tryz.underlying9
  have aD := Tryz.isAgg30
  have uD := Tryz.underlying30
  have zD := Tryz.sizeOf30
  have hd := eqDg1 a b c d w
  rw [show (10000 : Nat) = 9999 + 1 from rfl, run_equalIn_agg w 9999 38 _ _ hS stoodIt]
  simp only [Program.fieldsOf, Tryz.underlying38]
  go_simp
  by_cases h1 : a = c <;> by_cases h2 : b = d <;> by_cases h3 : s.toList = t.toList <;> simp [h1, h2, h3]
instance : DecidableEq FCh := fun a b => decidable_of_iff (a.path = b.path ∧ a.ho = b.ho ∧ a.hn = b.hn ∧ a.old = b.old ∧ a.new = b.new) ⟨fun h => by cases a; cases b; simp_all, fun h => by subst h; simp⟩
@[go_sem] theorem guardFC : Tryz.prog.eqGuardType Tryz.prog.depth 112 = false := by kernel_rfl
theorem stoodFC : Tryz.prog.stoodInHeld 112 = false := by kernel_rfl
@[go_sem high] theorem eqFC (s s' o o' n n' : ByteArray) (a a' b b' : Bool) (w : World) : (Op.equalIn 10000 112 (.agg #[.string s, .bool a, .bool b, .string o, .string n]) (.agg #[.string s', .bool a', .bool b', .string o', .string n'])).run Tryz.prog w = .ok (s.toList == s'.toList && (a == a' && (b == b' && (o.toList == o'.toList && n.toList == n'.toList)))) w := by
  have hS : Tryz.prog.underlying 112 = some (.struct (Tryz.prog.fieldsOf 112)) := by kernel_rfl
  have a9 := Tryz.isAgg9
  have u9 := Tryz.underlying9
  have a4 := Tryz.isAgg4
  have u4 := Tryz.underlying4
  rw [show (10000 : Nat) = 9999 + 1 from rfl, run_equalIn_agg w 9999 112 _ _ hS stoodFC]
  simp only [Program.fieldsOf, Tryz.underlying112]
  go_simp
  by_cases h1 : s.toList = s'.toList <;> by_cases h2 : a = a' <;> by_cases h3 : b = b' <;> by_cases h4 : o.toList = o'.toList <;> by_cases h5 : n.toList = n'.toList <;> simp [h1, h2, h3, h4, h5]
set_option maxRecDepth 100000 in
set_option maxHeartbeats 1000000 in
theorem same9_any (A0 A1 : Option Addr) (n0 c0 n1 c1 B : Nat) (rs qs : List Fl) (w : World) (h0 : Sl w B 2 A0 n0 (flat flC rs)) (h1 : Sl w B 2 A1 n1 (flat flC qs)) (m0 : n0 ≤ maxLen) :
    Calls Tryz.prog 24 #[.slice A0 n0 c0, .slice A1 n1 c1] w fun e w' => e = .returned (.bool (decide (rs = qs))) ∧ ∃ k, w' = w.drewN k := by
  unfold maxLen at m0
  have HL0 := Lib.hid (h0.len flC_len (by omega))
  have HL1 := Lib.hid (h1.len flC_len (by omega))
  have H0 := Lib.hid h0; have H1 := Lib.hid h1; clear h0 h1
  have hM : Hid (decide (rs = qs) = true ↔ rs = qs) := decide_eq_true_iff
  generalize decide (rs = qs) = mb at *
  by_cases hn : n0 = n1
  · subst hn
    go_enter Tryz.func24, Tryz.ntmps24
    go_wp2
    go_loopw [5] (fun i wr => ∃ k nq : Nat, k ≤ n0 ∧ i = .int .i64 k ∧ wr = w.drewN nq ∧ Hid (rs.take k = qs.take k)) (fun i _ => n0 - (intOf i).toNat)
    case atStart => exact ⟨0, 0, Nat.zero_le _, rfl, rfl, rfl⟩
    case round =>
      obtain ⟨k, nq, hk, rfl, rfl, heq⟩ := hrel
      by_cases hlt : k < n0
      · obtain ⟨b0, o0, r, rfl, _, hr, x0, x1⟩ := H0.out.fl hlt
        obtain ⟨b1, o1, q, rfl, _, hq, y0, y1⟩ := H1.out.fl hlt
        have HR := Lib.hid hr; have HQ := Lib.hid hq; clear hr hq
        have hlz : (k : Int) < (n0 : Int) := by omega
        by_cases e : r = q
        · have t1 : (r.1.toList == q.1.toList && r.2.toList == q.2.toList) = true := by rw [e]; simp
          have HE := Lib.hid e; clear e
          have hnx : Hid (rs.take (k + 1) = qs.take (k + 1)) := by
            show _ = _
            rw [take_snoc HR.out, take_snoc HQ.out, heq.out, HE.out]
          go_wp2
          go_quiet (fail)
          go_wp2
          go_roundw
          case rel => exact ⟨k + 1, _, by omega, by go_num, rfl, hnx⟩
          case measure => simp [intOf]; omega
        · have t1 : (r.1.toList == q.1.toList && r.2.toList == q.2.toList) = false := by
            rw [Bool.eq_false_iff]; intro hh
            simp only [Bool.and_eq_true, beq_iff_eq, ByteArray.toList_eq] at hh
            apply e
            exact Prod.ext (data_inj hh.1) (data_inj hh.2)
          have HE := Lib.hid e; clear e
          go_wp2
          go_quiet (fail)
          go_wp2
          go_ret
          refine ⟨ret_bool ?_, ⟨_, World.drewN_drewN _ _ _⟩⟩
          symm
          rw [Bool.eq_false_iff]
          intro hh
          have := hM.out.1 hh
          subst this
          exact HE.out (Option.some.inj (HR.out.symm.trans HQ.out))
      · have hall : Hid (mb = true) := by
          have := heq.out
          rw [List.take_of_length_le (by rw [HL0.out]; omega), List.take_of_length_le (by rw [HL1.out]; omega)] at this
          exact hM.out.2 this
        have hlz : ¬ (k : Int) < (n0 : Int) := by omega
        go_wp2
        go_ret
        exact ⟨ret_bool hall.out.symm, _, rfl⟩
  · have hne : ((n0 : Int) != (n1 : Int)) = true := by rw [bne_iff_ne]; omega
    go_enter Tryz.func24, Tryz.ntmps24
    go_wp2
    go_ret
    refine ⟨ret_bool ?_, 0, rfl⟩
    symm
    rw [Bool.eq_false_iff]
    intro hh
    have := hM.out.1 hh
    subst this
    exact hn (HL0.out.symm.trans HL1.out)

end Go.Proofs.YtmdhlkkekidknaaGreatDoor

namespace Go.Proofs.YtmdhlkkekidknaaGreatDoor
open Go.RowKit

theorem res_fl {fn : Func} {c : Tmp} (h : fn.results = #[.cell c 68]) {w : World} {a : Array Value} {b : Nat} {x0 x1 : Value} (ha : a[c]?.getD undef = .pointer (some ⟨b, 0, none⟩)) (hk : Bk w b 68 #[x0, x1]) :
    (results fn a).run Tryz.prog w = .ok (.agg #[x0, x1]) w := by
  obtain ⟨h0, h1, _⟩ := hk.two
  simp [results, h, ha, go_sem, h0, h1]
set_option maxRecDepth 100000 in
set_option maxHeartbeats 1000000 in
theorem lfile_any (a b : ByteArray) (w : World) : Calls Tryz.prog 44 #[.string a, .string b] w fun e w' => e = .returned (.agg #[.string a, .string b]) ∧ Below w.heap.size w w' := by
  have HB : Hid (Below w.heap.size w (w.alloc (.cells #[.string a, .string b] 68))) := (Below.refl _ w).alloc (Nat.le_refl _) _
  have HK : Hid (Bk (w.alloc (.cells #[.string a, .string b] 68)) w.heap.size 68 #[.string a, .string b]) := Bk.new w _ _
  go_enter Tryz.func44, Tryz.ntmps44
  go_wp2_with fail
  refine bodyPost_ret (res_fl Tryz.results44 rfl HK.out) rfl ⟨rfl, HB.out⟩
def LawE (w : World) (e : Ending) (w' : World) : Prop := e = .returned (.bool true) ∧ Below w.heap.size w w'
set_option maxRecDepth 100000 in
set_option maxHeartbeats 8000000 in
theorem awake_any (w : World) : Calls Tryz.prog 14 #[] w (LawE w) := by
  have HF1 := fun W => lfile_any sAX s1 W
  have HF2 := fun W => lfile_any sB s2 W
  unfold sAX s1 at HF1
  unfold sB s2 at HF2
  unfold LawE
  go_enter Tryz.func14, Tryz.ntmps14
  go_wp2_with fail
  refine (HF1 _).mono ?_
  rintro e w1 ⟨rfl, hb1⟩
  have HB1 := Lib.hid hb1
  clear hb1
  go_wp2_with fail
  refine (HF2 _).mono ?_
  rintro e w2 ⟨rfl, hb⟩
  have HB2 : Hid (Below w.heap.size w w2) := HB1.out.trans (hb.mono HB1.out.size)
  clear hb HB1 HF1 HF2
  obtain ⟨W3, hW3⟩ : ∃ W3, w2.alloc (.cells #[.string ⟨#[97, 47, 120]⟩, .string ⟨#[49]⟩, .string ⟨#[98]⟩, .string ⟨#[50]⟩] 68) = W3 := ⟨_, rfl⟩
  have HB3 : Hid (Below w.heap.size w W3) := by rw [← hW3]; exact HB2.out.alloc HB2.out.size _
  have HS3 : Hid (Sl W3 W3.heap.size 2 (some ⟨w2.heap.size, 0, none⟩) 2 (flat flC awL)) := by
    rw [← hW3]; exact Sl.of_bk (n := 2) (size := 2) (Bk.new w2 _ _) rfl
  have HST := Lib.hid (tstore_any none 0 0 W3.heap.size [] (some ⟨w2.heap.size, 0, none⟩) 2 2 awL W3 ⟨rfl, fun h => absurd h (Nat.lt_irrefl 0)⟩ HS3.out (Nat.le_refl _) (Nat.le_refl _) (Nat.zero_le _) (Nat.zero_le _) (by omega) PlOk.nil (fun f hf => ⟨Nat.le_trans (path_len (okAw.path f hf)) (by omega), okAw.data f hf⟩))
  have HW3 := Lib.hid hW3
  clear hW3
  go_wp2_with fail
  rw [HW3.out]
  refine HST.out.mono ?_
  rintro e w4 hst
  obtain ⟨A4, c4, rfl, hs4, hc4, hm4, hb⟩ := aw_store hst
  have HS4 := Lib.hid hs4
  have HB4 : Hid (Below w.heap.size w w4) := HB3.out.trans (hb.mono HB3.out.size)
  have HL4 := Lib.hid (sl_on HS3.out hb)
  clear hst hs4 hb HST HB3 HS3
  obtain ⟨⟨d1, d2⟩, hd⟩ : ∃ d, dR = d := ⟨_, rfl⟩
  have HD := Lib.hid hd
  rw [hd]
  simp only [digV]
  clear hd
  obtain ⟨W5, hW5⟩ : ∃ W5, w4.alloc (.cells #[.int .u64 d1, .int .u64 d2] 30) = W5 := ⟨_, rfl⟩
  have hb5 : Below w4.heap.size w4 W5 := by rw [← hW5]; exact (Below.refl _ w4).alloc (Nat.le_refl _) _
  have HB5 : Hid (Below w.heap.size w W5) := HB4.out.trans (hb5.mono HB4.out.size)
  have HK5 : Hid (Bk W5 w4.heap.size 30 #[.int .u64 d1, .int .u64 d2]) := by rw [← hW5]; exact Bk.new w4 _ _
  have HP5 := Lib.hid (sl_on HS4.out hb5)
  have HL5 := Lib.hid (sl_on HL4.out hb5)
  have hsz : ∀ i ∈ q4, i.2.size ≤ 60000 := by decide +kernel
  have HSZ := Lib.hid hsz
  have HC := Lib.hid (tload_any A4 4 c4 W5.heap.size q4 (d1, d2) W5 HP5.out (Nat.le_refl _) (by omega) plAw)
  simp only [digV] at HC
  have HW5 := Lib.hid hW5
  obtain ⟨x0, x1, _, _⟩ := HK5.out.two
  rw [← hW5] at x0 x1
  clear hW5 hb5 hsz HS4 HL4 HB4
  go_wp2_with fail
  rw [HW5.out]
  refine HC.out.mono ?_
  rintro e w6 hld
  obtain ⟨A6, c6, rfl, hs6, hb⟩ := aw_load (by rw [HD.out]; exact hld)
  have HS6 := Lib.hid hs6
  have HB6 : Hid (Below w.heap.size w w6) := HB5.out.trans (hb.mono HB5.out.size)
  have HK6 := Lib.hid (HK5.out.below hb HK5.out.lt)
  have HP6 := Lib.hid (sl_on HP5.out hb)
  have HL6 := Lib.hid (sl_on HL5.out hb)
  clear hld hs6 hb HC HK5 HP5 HL5 HB5 x0 x1 HW5
  obtain ⟨x0, x1, _, _⟩ := HK6.out.two
  have HC := Lib.hid (tset_any A4 4 c4 w6.heap.size q4 (d1, d2) sA s3 w6 HP6.out (Nat.le_refl _) hc4 hm4 (by omega) plAw HSZ.out (by decide) (by decide))
  unfold sA s3 at HC
  simp only [digV] at HC
  go_wp2_with fail
  refine HC.out.mono ?_
  rintro e w7 hst
  obtain ⟨rfl, hb⟩ := aw_set (w := w6) (e := e) (w' := w7) (by rw [HD.out]; exact hst)
  have HB7 : Hid (Below w.heap.size w w7) := HB6.out.trans (hb.mono HB6.out.size)
  have HK7 := Lib.hid (HK6.out.below hb HK6.out.lt)
  have HP7 := Lib.hid (sl_on HP6.out hb)
  have HL7 := Lib.hid (sl_on HL6.out hb)
  have HS7 := Lib.hid (sl_on HS6.out hb)
  clear hst hb HC HK6 HP6 HL6 HB6 HS6 x0 x1
  simp only [digV, zD]
  obtain ⟨x0, x1, _, _⟩ := HK7.out.two
  obtain ⟨W8, hW8⟩ : ∃ W8, w7.alloc (.cells #[.int .u64 0, .int .u64 0] 30) = W8 := ⟨_, rfl⟩
  have hb8 : Below w7.heap.size w7 W8 := by rw [← hW8]; exact (Below.refl _ w7).alloc (Nat.le_refl _) _
  have HB8 : Hid (Below w.heap.size w W8) := HB7.out.trans (hb8.mono HB7.out.size)
  have HK8 := Lib.hid (HK7.out.below hb8 HK7.out.lt)
  have HP8 := Lib.hid (sl_on HP7.out hb8)
  have HL8 := Lib.hid (sl_on HL7.out hb8)
  have HS8 := Lib.hid (sl_on HS7.out hb8)
  obtain ⟨y0, y1, _, _⟩ := HK8.out.two
  rw [← hW8] at y0 y1
  have HC := Lib.hid (tget_any A4 4 c4 W8.heap.size q4 (d1, d2) sA W8 HP8.out (Nat.le_refl _) (by omega) plAw (by decide))
  unfold TgE sA at HC
  obtain ⟨⟨g1, g2⟩, hg⟩ : ∃ g, gtR q4 (d1, d2) ⟨#[97]⟩ = g := ⟨_, rfl⟩
  have hg9 : g2 = 9 := by
    have := aw_getA
    rw [HD.out] at this
    unfold sA at this
    rw [hg] at this; exact this
  subst hg9
  rw [hg] at HC
  simp only [digV] at HC
  have HW8 := Lib.hid hW8
  clear hW8 hb8 hg HK7 HP7 HL7 HS7 HB7
  go_wp2_with fail
  rw [HW8.out]
  refine HC.out.mono ?_
  rintro e w9 ⟨rfl, hb⟩
  have HB9 : Hid (Below w.heap.size w w9) := HB8.out.trans (hb.mono HB8.out.size)
  have HK9 := Lib.hid (HK8.out.below hb HK8.out.lt)
  have HP9 := Lib.hid (sl_on HP8.out hb)
  have HL9 := Lib.hid (sl_on HL8.out hb)
  have HS9 := Lib.hid (sl_on HS8.out hb)
  clear hb HC HK8 HP8 HL8 HS8 HB8 x0 x1 y0 y1 HW8
  obtain ⟨x0, x1, _, _⟩ := HK9.out.two
  have HC := Lib.hid (tget_any A4 4 c4 w9.heap.size q4 (d1, d2) sAX w9 HP9.out (Nat.le_refl _) (by omega) plAw (by decide))
  have hgx := aw_getX
  rw [HD.out] at hgx
  unfold TgE at HC
  rw [hgx] at HC
  unfold sAX s1 at HC
  simp only [digV] at HC
  clear hgx
  go_wp2_with fail
  refine HC.out.mono ?_
  rintro e w10 ⟨rfl, hb⟩
  have HB10 : Hid (Below w.heap.size w w10) := HB9.out.trans (hb.mono HB9.out.size)
  have HL10 := Lib.hid (sl_on HL9.out hb)
  have HS10 := Lib.hid (sl_on HS9.out hb)
  have HC := Lib.hid (same9_any (some ⟨w2.heap.size, 0, none⟩) A6 2 2 2 c6 w10.heap.size awL awL w10 HL10.out HS10.out (by unfold maxLen; omega))
  have hdec : decide (awL = awL) = true := by simp
  rw [hdec] at HC
  clear hb hdec HK9 HP9 HL9 HS9 HB9 x0 x1
  go_wp2_with fail
  refine HC.out.mono ?_
  rintro e w11 ⟨rfl, k, rfl⟩
  have HB11 := Lib.hid (below_drewN HB10.out k)
  clear HC HB10 HL10 HS10
  go_wp2_with fail
  go_ret
  exact ⟨rfl, HB11.out⟩
end Go.Proofs.YtmdhlkkekidknaaGreatDoor

namespace Go.Proofs.YtmdhlkkekidknaaGreatDoor
open Go.RowKit

def SmP (p : List Itm) : Prop := ∀ i ∈ p, i.2.size ≤ 60000
theorem insP_sub {p q : List Itm} {x : Itm} (h : insP p x = some q) : ∀ i ∈ q, i ∈ p ∨ i = x := by
  unfold insP at h
  split at h
  · split at h
    · cases h; exact fun i hi => .inl hi
    · cases h
  · cases h
    intro i hi
    rw [List.mem_append, List.mem_append, List.mem_singleton] at hi
    rcases hi with (hi | hi) | hi
    · exact .inl (List.mem_of_mem_take hi)
    · exact .inr hi
    · exact .inl (List.mem_of_mem_drop hi)
theorem putP_small {p q : List Itm} {o : Ob} (hp : SmP p) (ho : (encO o).length ≤ 60000) (h : putP p o = some q) : SmP q := fun i hi => by
  rcases insP_sub h i hi with h1 | rfl
  · exact hp i h1
  · show (ofL (encO o)).size ≤ 60000
    rw [size_toL, toL_ofL]; exact ho
theorem blob_small {s : ByteArray} (h : s.size ≤ 50000) : (encO (blobO s)).length ≤ 60000 := by
  show (encN 1 ++ encT (toL s)).length ≤ 60000
  unfold encT
  rw [size_toL] at h
  have h1 := encN_len 5 1 (by omega)
  have h2 := encN_len 5 (toL s).length (by omega)
  simp only [List.length_append]; omega
theorem tree_small {es : List Ent} (h : OkEs es) : (encO (treeO es)).length ≤ 60000 := by
  show (encN 2 ++ encB (treeO es)).length ≤ 60000
  have h1 := encN_len 5 2 (by omega)
  have h2 := encN_len 5 es.length (by have := h.few; omega)
  have h3 := encEs_len h.all
  have h4 := h.few
  have : encB (treeO es) = encN es.length ++ es.flatMap encE := by unfold encB; exact if_pos rfl
  rw [this]
  simp only [List.length_append]; omega
theorem stoE_small {k : Nat} (ih : ∀ (p : List Itm) (l : List Fl) (q : List Itm) (d : Dig), OkL l → PlOk p → SmP p → (∀ f ∈ l, f.2.size ≤ 50000) → sto k p l = some (q, d) → SmP q) {l : List Fl} (hl : OkL l) (hd : ∀ f ∈ l, f.2.size ≤ 50000) :
    ∀ (ns : List ByteArray) (p : List Itm) (es : List Ent) (q : List Itm) (es' : List Ent), PlOk p → SmP p → stoE (sto k) l p ns es = some (q, es') → SmP q := by
  intro ns
  induction ns with
  | nil =>
    intro p es q es' _ hs h
    rw [stoE] at h
    cases h
    exact hs
  | cons n r ihr =>
    intro p es q es' hp hs h
    cases hk : lookF9 l n with
    | some s =>
      have hm := (look9_some hl.nod).1 hk
      cases hpp : putP p (blobO s) with
      | none => rw [stoE_filex hk hpp] at h; cases h
      | some p1 =>
        rw [stoE_file hk hpp] at h
        exact ihr p1 _ q es' (putP_ok hp (okO_blob (hl.data _ hm)) hpp) (putP_small hs (blob_small (hd _ hm)) hpp) h
    | none =>
      cases hpp : sto k p (inD l n) with
      | none => rw [stoE_dirx hk hpp] at h; cases h
      | some pd =>
        obtain ⟨p1, d1⟩ := pd
        rw [stoE_dir hk hpp] at h
        have hin : ∀ f ∈ inD l n, f.2.size ≤ 50000 := fun f hf => by
          obtain ⟨g, hg, _, _, rfl⟩ := mem_inD.1 hf
          exact hd g hg
        exact ihr p1 _ q es' (sto_std k p _ p1 d1 (hl.sub n) hp hpp).2.1 (ih p _ p1 d1 (hl.sub n) hp hs hin hpp) h
theorem sto_small : ∀ (k : Nat) (p : List Itm) (l : List Fl) (q : List Itm) (d : Dig), OkL l → PlOk p → SmP p → (∀ f ∈ l, f.2.size ≤ 50000) → sto k p l = some (q, d) → SmP q := by
  intro k
  induction k with
  | zero => intro p l q d _ _ _ _ h; rw [sto] at h; cases h
  | succ k ih =>
    intro p l q d hl hp hs hd h
    rw [sto] at h
    cases hE : stoE (sto k) l p (nmsP l) [] with
    | none => rw [hE] at h; cases h
    | some pe =>
      obtain ⟨p1, es⟩ := pe
      rw [hE] at h
      simp only at h
      cases hpp : putP p1 (treeO es) with
      | none => rw [hpp] at h; cases h
      | some p2 =>
        rw [hpp] at h
        cases h
        obtain ⟨a, b, fs, c, e1, e2⟩ := stoE_std (sto_std k) hl (nmsP l) p [] p1 es hp (fun n hn => hn) hE
        rw [List.nil_append] at c
        subst c
        exact putP_small (stoE_small ih hl hd (nmsP l) p [] p1 es hp hs hE) (tree_small (ents_ok hl e1 e2 (fun d l h => std_wf a h) a)) hpp
end Go.Proofs.YtmdhlkkekidknaaGreatDoor

namespace Go.Proofs.YtmdhlkkekidknaaGreatDoor
open Go.RowKit Go.Maps

def Gr9End (n : Nat) (fs : List Fl) (w : World) (e : Ending) (w' : World) : Prop := ∃ r : Bool, e = .returned (.bool r) ∧ (r = false → n ≤ 10 ∧ ∀ f ∈ fs, f.1.size ≤ 120 ∧ f.2.size ≤ 200) ∧ w = w'
set_option maxRecDepth 100000 in
set_option maxHeartbeats 2000000 in
theorem great9_any (A : Option Addr) (n c B : Nat) (fs : List Fl) (w : World) (h0 : Sl w B 2 A n (flat flC fs)) (hn : n ≤ maxLen) (hs : ∀ f ∈ fs, f.1.size ≤ maxLen ∧ f.2.size ≤ maxLen) :
    Calls Tryz.prog 13 #[.slice A n c] w (Gr9End n fs w) := by
  unfold maxLen at hn
  have HL0 := Lib.hid (h0.len flC_len (by omega))
  have H0 := Lib.hid h0; clear h0
  have HS := Lib.hid hs; clear hs
  go_enter Tryz.func13, Tryz.ntmps13
  by_cases hbig : (10 : Int) < (n : Int)
  · go_wp2
    go_ret
    exact ⟨true, rfl, (fun e => by cases e), rfl⟩
  go_wp2
  go_loopw [3] (fun i wr => ∃ k : Nat, k ≤ n ∧ i = .int .i64 k ∧ wr = w ∧ Hid (∀ f ∈ fs.take k, f.1.size ≤ 120 ∧ f.2.size ≤ 200)) (fun i _ => n - (intOf i).toNat)
  case atStart => exact ⟨0, Nat.zero_le _, rfl, rfl, fun y hy => by simp at hy⟩
  case round =>
    obtain ⟨k, hk, rfl, rfl, hN⟩ := hrel
    by_cases hlt : k < n
    · obtain ⟨b, off, f, rfl, hb, hf, y0, y1⟩ := H0.out.fl hlt
      have hkz : (k : Int) < (n : Int) := by omega
      have hfs := HS.out f (List.mem_of_getElem? hf)
      have hf1 : f.1.size ≤ 9223372036854775807 := by have := hfs.1; unfold maxLen at this; exact this
      have hf2 : f.2.size ≤ 9223372036854775807 := by have := hfs.2; unfold maxLen at this; exact this
      have HF := Lib.hid hf; clear hf hfs
      by_cases c1 : (120 : Int) < (f.1.size : Int)
      · go_wp2
        go_ret
        exact ⟨true, rfl, (fun e => by cases e), rfl⟩
      by_cases c2 : (200 : Int) < (f.2.size : Int)
      · go_wp2
        go_ret
        exact ⟨true, rfl, (fun e => by cases e), rfl⟩
      have HN : Hid (∀ f ∈ fs.take (k + 1), f.1.size ≤ 120 ∧ f.2.size ≤ 200) := fun y hy => by
        rw [take_snoc HF.out] at hy
        rcases List.mem_append.1 hy with hy | hy
        · exact hN.out y hy
        · rw [List.mem_singleton.1 hy]; exact ⟨by omega, by omega⟩
      go_wp2
      go_roundw
      case rel => exact ⟨k + 1, hlt, by go_num, trivial, HN.out⟩
      case measure => simp [intOf]; omega
    · have hkz : ¬ (k : Int) < (n : Int) := by omega
      have HN : Hid (∀ f ∈ fs, f.1.size ≤ 120 ∧ f.2.size ≤ 200) := by
        have := hN.out
        rwa [List.take_of_length_le (by rw [HL0.out]; omega)] at this
      go_wp2
      go_ret
      exact ⟨false, rfl, (fun _ => ⟨by omega, HN.out⟩), rfl⟩
end Go.Proofs.YtmdhlkkekidknaaGreatDoor

namespace Go.Proofs.YtmdhlkkekidknaaGreatDoor
open Go.RowKit

theorem str_of {p : List Itm} {l : List Fl} {w w' : World} {e : Ending} (hd : ∀ f ∈ l, f.2.size ≤ 60000) (h : StrE p l w e w') :
    ((∃ z : Int, z ≠ 0 ∧ e = .returned (.tuple #[.slice none 0 0, digV zD, .int .i64 z])) ∨ (OkL l ∧ AscF l ∧ ∃ q d A c, sto 101 p l = some (q, d) ∧ StoR p q d l ∧ e = .returned (.tuple #[.slice A q.length c, digV d, .int .i64 0]) ∧ Sl w' w'.heap.size 3 A q.length (flat itC q) ∧ q.length ≤ c ∧ c ≤ maxLen)) ∧ Below w.heap.size w w' := by
  obtain ⟨h, hb⟩ := h
  refine ⟨?_, hb⟩
  rcases h with ⟨z, _, hn, rfl⟩ | ⟨h0, ⟨q, d, A, c, h1, h2, rfl, h3, h4, h5⟩ | ⟨h1, rfl⟩⟩
  · exact .inl ⟨z, hn, rfl⟩
  · obtain ⟨a, b⟩ := ck_ok h0 hd
    exact .inr ⟨a, b, q, d, A, c, h1, h2, rfl, h3, h4, h5⟩
  · exact .inl ⟨16, by decide, rfl⟩
end Go.Proofs.YtmdhlkkekidknaaGreatDoor

namespace Go.Proofs.YtmdhlkkekidknaaGreatDoor
open Go.RowKit Go.Maps

set_option maxRecDepth 100000 in
set_option maxHeartbeats 16000000 in
theorem tdiff_any (A : Option Addr) (np cp B : Nat) (p : List Itm) (d1 d2 : Dig) (w : World) (h0 : Sl w B 3 A np (flat itC p)) (hB : B ≤ w.heap.size) (hn : np ≤ 1000000) (hp : PlOk p) (hs : ∀ i ∈ p, i.2.size ≤ 60000) :
    Calls Tryz.prog 34 #[.slice A np cp, digV d1, digV d2] w (DfE p d1 d2 w) := by
  have HP := Lib.hid hp; have H0 := Lib.hid h0; have HS := Lib.hid hs
  obtain ⟨a1, a2⟩ := d1
  obtain ⟨b1, b2⟩ := d2
  obtain ⟨W, hW⟩ : ∃ W, (w.alloc (.cells #[.int .u64 a1, .int .u64 a2] 30)).alloc (.cells #[.int .u64 b1, .int .u64 b2] 30) = W := ⟨_, rfl⟩
  have HB0 : Hid (Below w.heap.size w W) := by rw [← hW]; exact ((Below.refl _ w).alloc (Nat.le_refl _) _).alloc (by simp) _
  have HD : Hid (Bk W (w.heap.size + 1) 30 #[.int .u64 b1, .int .u64 b2]) := by
    rw [← hW]
    have := Bk.new (w.alloc (.cells #[.int .u64 a1, .int .u64 a2] 30)) 30 #[.int .u64 b1, .int .u64 b2]
    rw [World.size_alloc] at this; exact this
  have zW : w.heap.size + 2 = W.heap.size := by rw [← hW]; simp
  have HC := Lib.hid (tload_any A np cp B p (a1, a2) W (h0.below HB0.out hB) (Nat.le_trans hB HB0.out.size) hn hp)
  unfold LdEE at HC
  have HW := Lib.hid hW
  simp only [digV] at HC ⊢
  clear hp h0 hs hW
  go_enter Tryz.func34, Tryz.ntmps34
  go_wp2_with fail
  rw [HW.out]
  refine HC.out.mono ?_
  rintro e w1 ⟨hq, hb⟩
  have HB1 : Hid (Below w.heap.size w w1) := HB0.out.trans (hb.mono HB0.out.size)
  have HD1 := Lib.hid (HD.out.below hb (by omega))
  have z1 : w.heap.size + 2 ≤ w1.heap.size := by have := hb.size; omega
  clear hb HC HD HB0 HW
  obtain ⟨y0, y1, _, _⟩ := HD1.out.two
  rcases hq with ⟨a, A1, c1, hld, rfl, hown⟩ | ⟨err, hlod, hnz, rfl⟩
  case inr =>
    have t1 : (err != 0) = true := by rw [bne_iff_ne]; exact hnz
    have HL := Lib.hid hlod; have HNZ := Lib.hid hnz
    clear hlod hnz
    go_wp2_with fail
    go_ret2
    exact ⟨.inl ⟨err, HL.out, HNZ.out, rfl⟩, HB1.out⟩
  case inl =>
    have HLA := Lib.hid hld
    obtain ⟨hok, _⟩ := load_std HP.out HS.out hld
    have HOKA := Lib.hid hok
    have hfa := hok.few
    have HSA : Hid (Sl w1 w1.heap.size 2 A1 a.length (flat flC a)) := Sl.of_own hown
    have HC := Lib.hid (tload_any A np cp B p (b1, b2) w1 (H0.out.below HB1.out hB) (Nat.le_trans hB HB1.out.size) hn HP.out)
    unfold LdEE at HC
    simp only [digV] at HC
    clear hld hown hok
    go_wp2_with fail
    refine HC.out.mono ?_
    rintro e w2 ⟨hq, hb⟩
    have HB2 : Hid (Below w.heap.size w w2) := HB1.out.trans (hb.mono HB1.out.size)
    have HSA2 := Lib.hid (sl_on HSA.out hb)
    have z2 : w.heap.size + 2 ≤ w2.heap.size := by have := hb.size; omega
    clear hb HC HSA HD1 HB1 y0 y1
    rcases hq with ⟨b, A2, c2, hld, rfl, hown⟩ | ⟨err, hlod, hnz, rfl⟩
    case inr =>
      have t1 : (err != 0) = true := by rw [bne_iff_ne]; exact hnz
      have HL := Lib.hid hlod; have HNZ := Lib.hid hnz
      clear hlod hnz
      go_wp2_with fail
      go_ret2
      exact ⟨.inr ⟨a, HLA.out, .inl ⟨err, HL.out, HNZ.out, rfl⟩⟩, HB2.out⟩
    case inl =>
      have HLB := Lib.hid hld
      obtain ⟨hok, _⟩ := load_std HP.out HS.out hld
      have HOKB := Lib.hid hok
      have hfb := hok.few
      have HSB2 : Hid (Sl w2 w2.heap.size 2 A2 b.length (flat flC b)) := Sl.of_own hown
      have hmm := @run_makeMap Tryz.prog
      have HLN1 := Lib.hid (HSA2.out.len flC_len (by omega)); have HLN2 := Lib.hid (HSB2.out.len flC_len (by omega))
      clear hld hown hok
      go_wp2_with fail
      obtain ⟨M, hM⟩ : ∃ M, w2.heap.size = M := ⟨_, rfl⟩
      have HM0 : Hid (Rm (w2.alloc (.map #[] 0)) Tryz.prog 9 M 0 (gD (a.take 0) [])) := by
        show Rm _ _ _ _ _ _
        rw [List.take_zero, gD_nil, ← hM]; exact Rm.made w2 Tryz.prog 9
      have HB3 : Hid (Below M w2 (w2.alloc (.map #[] 0))) := by rw [← hM]; exact (Below.refl _ w2).alloc (Nat.le_refl _) _
      have HMM := Lib.hid hM
      rw [hM]
      clear hM hmm
      go_loopw [42] (fun i wr => ∃ j : Nat, j ≤ a.length ∧ i = .int .i64 (j : Int) ∧ Hid (Rm wr Tryz.prog 9 M j (gD (a.take j) [])) ∧ Hid (Below M w2 wr)) (fun i _ => a.length - (intOf i).toNat)
      case atStart => exact ⟨0, Nat.zero_le _, rfl, HM0.out, HB3.out⟩
      case round =>
        obtain ⟨j, hj, rfl, hR, hBel⟩ := hrel
        by_cases hlt : j < a.length
        · have hlz : (j : Int) < (a.length : Int) := by omega
          obtain ⟨bb, off, f, rfl, hbB, hf, y0, y1⟩ := (HSA2.out.below (by rw [HMM.out]; exact hBel.out) (Nat.le_refl _)).fl hlt
          have hfs : f.1.size ≤ 100 := path_len (HOKA.out.path f (List.mem_of_getElem? hf))
          have HND := Lib.hid (nod_at HOKA.out.nod hf)
          have HTK := Lib.hid (take_snoc hf)
          clear hf
          obtain ⟨fp, fd⟩ := f
          simp only at y0 y1 hfs
          have hsm : fp.size ≤ maxLen := by unfold maxLen; omega
          go_wp2_with (at_mapUpdate; refine halt_ ?_)
          refine unhalt ?_
          refine wpList_put_rm rfl _ _ _ 110 rfl 9 112 Tryz.underlying9 Tryz.underlying110 M j (gD (a.take j) []) rfl (hR.out.alloc _) (by unfold maxLen; omega) fp hsm _ rfl rfl ?_
          intro w4 hM4 hg4
          have HM4 : Hid (Rm w4 Tryz.prog 9 M (j + 1) (gD (a.take (j + 1)) [])) := by
            show Rm _ _ _ _ _ _
            rw [HTK.out, gD_old HND.out]; exact hM4
          have zM : M ≤ wr.heap.size := by have := hBel.out.size; have := HMM.out; omega
          have HB4 : Hid (Below M w2 w4) := (hBel.out.alloc zM _).grown hg4 (by simp; omega) (fun k e => by cases e; exact Nat.le_refl _)
          clear hM4 hg4 hR hBel
          go_wp2_with fail
          go_roundw
          case rel => exact ⟨j + 1, hlt, by go_num, HM4.out, HB4.out⟩
          case measure => simp [intOf]; omega
        · have hlz : ¬ (j : Int) < (a.length : Int) := by omega
          have hje : j = a.length := by omega
          have HM5 : Hid (Rm wr Tryz.prog 9 M a.length (gD a (b.take 0))) := by
            have := hR.out
            rw [hje, List.take_length] at this; exact this
          obtain ⟨wo, hwo⟩ : ∃ wo, wo = wr := ⟨_, rfl⟩
          subst hwo
          have HB5 := Lib.hid hBel.out
          clear hR hBel
          go_wp2_with fail
          go_loopw [57] (fun i wr => ∃ j : Nat, j ≤ b.length ∧ i = .int .i64 (j : Int) ∧ Hid (Rm wr Tryz.prog 9 M (a.length + j) (gD a (b.take j))) ∧ Hid (Below M w2 wr)) (fun i _ => b.length - (intOf i).toNat)
          case atStart => exact ⟨0, Nat.zero_le _, rfl, HM5.out, HB5.out⟩
          case round =>
            clear HM5 HB5
            obtain ⟨j, hj, rfl, hR, hBel⟩ := hrel
            by_cases hlt : j < b.length
            · have hlz : (j : Int) < (b.length : Int) := by omega
              obtain ⟨bb, off, f, rfl, hbB, hf, y0, y1⟩ := (HSB2.out.below (by rw [HMM.out]; exact hBel.out) (Nat.le_refl _)).fl hlt
              have hfs : f.1.size ≤ 100 := path_len (HOKB.out.path f (List.mem_of_getElem? hf))
              have HND := Lib.hid (nod_at HOKB.out.nod hf)
              have HTK := Lib.hid (take_snoc hf)
              clear hf
              obtain ⟨fp, fd⟩ := f
              simp only at y0 y1 hfs
              have hsm : fp.size ≤ maxLen := by unfold maxLen; omega
              have HND' : Hid (fp ∉ (b.take j).map Prod.fst) := HND.out
              obtain ⟨q0, hq0⟩ := gD_look (a := a) (b := b.take j) (f := (fp, fd)) HND.out
              obtain ⟨ho, hho⟩ : ∃ ho, (lookF9 a fp).isSome = ho := ⟨_, rfl⟩
              obtain ⟨od, hod⟩ : ∃ od, (lookF9 a fp).getD eB = od := ⟨_, rfl⟩
              simp only [hho, hod] at hq0
              have HHO := Lib.hid hho; have HOD := Lib.hid hod
              have hlk : (Instr.lookup 110 (.map (some M)) (.string fp) false).run Tryz.prog (wr.alloc (.cells #[.string fp, .string fd] 68)) = .ok (.agg #[.string q0, .bool ho, .bool false, .string od, .string ⟨#[]⟩]) (wr.alloc (.cells #[.string fp, .string fd] 68)) := by
                have := (hR.out.alloc (.cells #[.string fp, .string fd] 68)).look (t := 110) Tryz.underlying9 Tryz.underlying110 (Tryz.zeroValue112 _) (s := fp) hsm
                rw [this]
                congr 1
              clear hq0 hho hod
              go_wp2_with fail
              go_region
              have zM : M ≤ wr.heap.size := by have := hBel.out.size; have := HMM.out; omega
              have HM6 : Hid (Rm ((wr.alloc (.cells #[.string fp, .string fd] 68)).alloc (.cells #[.string fp, .bool ho, .bool true, .string od, .string fd] 112)).drew Tryz.prog 9 M (a.length + j) (gD a (b.take j))) :=
                by
                  have h1 := (hR.out.alloc (.cells #[.string fp, .string fd] 68)).alloc (.cells #[.string fp, .bool ho, .bool true, .string od, .string fd] 112)
                  exact h1.below (Below.refl _ _).drew h1.lt
              go_wp2_with (at_mapUpdate; refine halt_ ?_)
              refine unhalt ?_
              refine wpList_put_rm rfl _ _ _ 110 rfl 9 112 Tryz.underlying9 Tryz.underlying110 M (a.length + j) (gD a (b.take j)) rfl HM6.out (by unfold maxLen; omega) fp hsm _ rfl rfl ?_
              intro w4 hM4 hg4
              have HM4 : Hid (Rm w4 Tryz.prog 9 M (a.length + (j + 1)) (gD a (b.take (j + 1)))) := by
                show Rm _ _ _ _ _ _
                rw [HTK.out, gD_new HND.out]
                simp only [HHO.out, HOD.out]
                exact hM4
              have HB4 : Hid (Below M w2 w4) := (((hBel.out.alloc zM _).alloc (by simp; omega) _).drew).grown hg4 (by simp; omega) (fun k e => by cases e; exact Nat.le_refl _)
              clear hM4 hg4 hR hBel HM6
              go_wp2_with fail
              go_roundw
              case rel => exact ⟨j + 1, hlt, by go_num, HM4.out, HB4.out⟩
              case measure => simp [intOf]; omega
            · have hlz : ¬ (j : Int) < (b.length : Int) := by omega
              have hje : j = b.length := by omega
              have HM7 : Hid (Rm wr Tryz.prog 9 M (a.length + b.length) (gD a b)) := by
                have := hR.out
                rw [hje, List.take_length] at this; exact this
              obtain ⟨wp, hwp⟩ : ∃ wp, wp = wr := ⟨_, rfl⟩
              subst hwp
              have HB7 := Lib.hid hBel.out
              have HKC := Lib.hid (keysC_any M wp)
              clear hR hBel
              go_wp2_with fail
              refine HKC.out.mono ?_
              rintro e w5 ⟨rfl, hw5⟩
              have hb5 : Below wp.heap.size wp w5 := by rw [hw5]; exact (Below.refl _ wp).alloc (Nat.le_refl _) _
              have hk5 : Bk w5 wp.heap.size 110 #[.map (some M)] := by rw [hw5]; exact Bk.new wp _ _
              have HM8 := Lib.hid (HM7.out.below hb5 HM7.out.lt)
              have HSO := Lib.hid (sortedC_any wp.heap.size M (a.length + b.length) (gD a b) w5 HM8.out (hk5.cell 0) hk5.lt (by omega))
              unfold SkE at HSO
              have zM : M ≤ wp.heap.size := by have := HB7.out.size; have := HMM.out; omega
              have HB8 : Hid (Below M w2 w5) := HB7.out.trans (hb5.mono zM)
              clear hw5 hb5 hk5 HKC HB7 HM7
              go_wp2_with fail
              refine HSO.out.mono ?_
              rintro e w6 ⟨A7, c7, ks, rfl, hasc, hmem, hlen, hrow, hb6⟩
              have HASC := Lib.hid hasc; have HMEM := Lib.hid hmem
              have zM5 : M ≤ w5.heap.size := by have := HB8.out.size; have := HMM.out; omega
              have HM9 := Lib.hid (HM8.out.below hb6 HM8.out.lt)
              have HB9 : Hid (Below M w2 w6) := HB8.out.trans (hb6.mono zM5)
              have HKS : Hid (Sl w6 w6.heap.size 1 A7 ks.length (strs ks)) := Sl.of_own hrow
              have hML : M < w6.heap.size := HM9.out.lt
              obtain ⟨Z, hZ⟩ : ∃ Z, w6.heap.size = Z := ⟨_, rfl⟩
              have HZ := Lib.hid hZ
              rw [hZ] at HKS hML
              clear hasc hmem hrow hb6 HSO HM8 HB8 zM5 hZ
              go_wp2_with fail
              obtain ⟨i0, hi, hz0, hz1, hz2⟩ := info_parts infoFC
              have Hi := Lib.hid hi; have Hz0 := Lib.hid hz0; have Hz1 := Lib.hid hz1; have Hz2 := Lib.hid hz2
              clear hi hz0 hz1 hz2
              go_loopw [17, 81] (fun q i wr => ∃ (j : Nat) (A : Option Addr) (n c : Nat), j ≤ ks.length ∧ i = .int .i64 (j : Int) ∧ q = .slice A n c ∧ n = (chL a b (ks.take j)).length ∧ n ≤ c ∧ c ≤ maxLen ∧ Hid (wr.ownsRow Z 112 5 (.slice A n c) n (flat fcC (chL a b (ks.take j)))) ∧ Hid (Below Z w6 wr)) (fun _ i _ => ks.length - (intOf i).toNat)
              case atStart => exact ⟨0, none, 0, 0, Nat.zero_le _, rfl, rfl, rfl, Nat.le_refl _, Nat.zero_le _, World.ownsRow_nil _ _ _ _, Below.refl _ _⟩
              case round =>
                obtain ⟨j, A, n, c, hj, rfl, rfl, hn, hnc, hcm, hO, hBel⟩ := hrel
                by_cases hlt : j < ks.length
                · have hlz : (j : Int) < (ks.length : Int) := by omega
                  obtain ⟨bb, off, k, rfl, hbB, hk, y0⟩ := (HKS.out.below hBel.out (Nat.le_refl _)).str_at hlt
                  have HTK := Lib.hid (take_snoc hk)
                  have hin := (gD_some a b k).1 ((HMEM.out k).1 (List.mem_of_getElem? hk))
                  have hks : k.size ≤ 100 := by
                    rcases hin with h | h
                    · obtain ⟨d, hd⟩ := Option.isSome_iff_exists.1 h
                      exact path_len (HOKA.out.path _ ((look9_some HOKA.out.nod).1 hd))
                    · obtain ⟨d, hd⟩ := Option.isSome_iff_exists.1 h
                      exact path_len (HOKB.out.path _ ((look9_some HOKB.out.nod).1 hd))
                  have hsm : k.size ≤ maxLen := by unfold maxLen; omega
                  obtain ⟨x, hx⟩ : ∃ x, chg a b k = x := ⟨_, rfl⟩
                  have hlk : (Instr.lookup 110 (.map (some M)) (.string k) false).run Tryz.prog wr = .ok (fcV x) wr := by
                    have := (HM9.out.below hBel.out hML).look (t := 110) Tryz.underlying9 Tryz.underlying110 (Tryz.zeroValue112 _) (s := k) hsm
                    rw [this, gD_get hin, hx]
                  have HSN := Lib.hid (chL_snoc a b (ks.take j) k)
                  rw [hx, ← HTK.out] at HSN
                  have HN : Hid (n = (chL a b (ks.take j)).length) := hn
                  have hn400 : n ≤ 400 := by
                    have := chL_len a b (ks.take j)
                    rw [List.length_take] at this
                    omega
                  clear hk hin hx hn
                  obtain ⟨s, ho, hn, old, new⟩ := x
                  simp only [fcV] at hlk
                  have zZ : Z ≤ wr.heap.size := by have := hBel.out.size; have := HZ.out; omega
                  by_cases hch : isCh ⟨s, ho, hn, old, new⟩
                  · have HS2 : Hid (chL a b (ks.take (j + 1)) = chL a b (ks.take j) ++ [⟨s, ho, hn, old, new⟩]) := by
                      have := HSN.out; rw [if_pos hch] at this; exact this
                    unfold isCh at hch
                    simp only [ne_eq] at hch
                    have HCH := Lib.hid hch
                    have hsq : (ho != hn) = false → (old.toList == new.toList) = false := fun e => by
                      have : ho = hn := by simpa using e
                      rcases HCH.out with h | h
                      · exact absurd this h
                      · exact str_ne h
                    clear hch HSN HCH
                    obtain ⟨X, hX⟩ : ∃ X : FCh, (⟨s, ho, hn, old, new⟩ : FCh) = X := ⟨_, rfl⟩
                    rw [hX] at HS2
                    have HOWN : Hid (((wr.alloc (.cells #[.string s, .bool ho, .bool hn, .string old, .string new] 112)).alloc (.cells #[.string s, .bool ho, .bool hn, .string old, .string new] 112)).ownsRow Z 112 5 (.slice A n c) n (flat fcC (chL a b (ks.take j)))) :=
                      ownsRow_upon hO.out (((Below.refl _ wr).alloc (Nat.le_refl _) _).alloc (by simp) _)
                    have HNW : Hid (Sl ((wr.alloc (.cells #[.string s, .bool ho, .bool hn, .string old, .string new] 112)).alloc (.cells #[.string s, .bool ho, .bool hn, .string old, .string new] 112)) (wr.heap.size + 2) 5 (some ⟨wr.heap.size + 1, 0, none⟩) 1 (fcC X)) := by
                      rw [← hX]
                      have h1 := Sl.of_bk (n := 1) (size := 5) (Bk.new (wr.alloc (.cells #[.string s, .bool ho, .bool hn, .string old, .string new] 112)) 112 #[.string s, .bool ho, .bool hn, .string old, .string new]) rfl
                      simp only [World.size_alloc] at h1
                      exact h1
                    have hb1 : Below Z w6 ((wr.alloc (.cells #[.string s, .bool ho, .bool hn, .string old, .string new] 112)).alloc (.cells #[.string s, .bool ho, .bool hn, .string old, .string new] 112)) := (hBel.out.alloc zZ _).alloc (by simp; omega) _
                    have HB1' := Lib.hid hb1
                    have HGE : Hid (∀ k, (Value.slice A n c).ownBlock = some k → Z ≤ k) := fun k hk => ownBlock_ge hO.out k hk
                    have l1 : n + 1 ≤ maxLen := by unfold maxLen; omega
                    have l2 : (n + 1) * 56 ≤ 140737488355328 := by omega
                    have l3 : Z ≤ ((wr.alloc (.cells #[.string s, .bool ho, .bool hn, .string old, .string new] 112)).alloc (.cells #[.string s, .bool ho, .bool hn, .string old, .string new] 112)).heap.size := by simp; omega
                    have L1 := Lib.hid l1; have L2 := Lib.hid l2; have L3 := Lib.hid l3
                    clear hb1 hBel l1 l2 l3
                    have HONE : Hid (∀ u ∈ fcC X, u.oneCell' = true) := by show ∀ u ∈ fcC X, u.oneCell' = true; rw [← hX]; simp [fcC, Value.oneCell']
                    clear hX
                    cases ho <;> cases hn
                    all_goals
                      first | have hsf := hsq rfl | skip
                      clear hsq
                      go_wp2_with (at_builtin; refine halt_ ?_)
                      refine unhalt ?_
                      refine wpList_append_sl (base := Z) (size := 5) _ rfl (.tmp 100) (.tmp 102) 58 rfl 112 i0 _ 56 Tryz.underlying58 Hi.out Hz0.out Hz1.out Hz2.out rfl (by decide) (.slice A n c) n (flat fcC (chL a b (ks.take j))) rfl HOWN.out (wr.heap.size + 2) _ 1 _ (fcC X) rfl HNW.out HONE.out L1.out L2.out L3.out ?_
                      intro A4 c4 w4 ho4 hg4 hc41 hc42
                      have HO4 : Hid (w4.ownsRow Z 112 5 (.slice A4 (n + 1) c4) (n + 1) (flat fcC (chL a b (ks.take (j + 1))))) := by
                        show World.ownsRow _ _ _ _ _ _ _
                        rw [HS2.out, flat_append]
                        have e : flat fcC [X] = fcC X := by simp [flat]
                        rw [e]; exact ho4
                      have HB4 : Hid (Below Z w6 w4) := HB1'.out.grown hg4 L3.out (fun k hk => HGE.out k hk)
                      have HN4 : Hid (n + 1 = (chL a b (ks.take (j + 1))).length) := by show _ = _; rw [HS2.out, List.length_append, ← HN.out]; rfl
                      clear ho4 hg4 hO
                      go_wp2_with fail
                      refine ⟨⟨j + 1, A4, n + 1, c4, hlt, by go_num, rfl, HN4.out, hc41, hc42, HO4.out, HB4.out⟩, ?_⟩
                      simp [intOf]; omega
                  · have HS2 : Hid (chL a b (ks.take (j + 1)) = chL a b (ks.take j)) := by
                      have := HSN.out; rw [if_neg hch] at this; exact this
                    clear HSN
                    unfold isCh at hch
                    simp only [ne_eq, not_or, Decidable.not_not] at hch
                    obtain ⟨rfl, rfl⟩ := hch
                    have hbb : (ho != ho) = false := by simp
                    have hss : (old.toList == old.toList) = true := by simp
                    go_wp2_with fail
                    refine ⟨⟨j + 1, A, n, c, hlt, by go_num, rfl, by rw [HS2.out]; exact HN.out, hnc, hcm, by rw [HS2.out]; exact ownsRow_upon hO.out ((Below.refl _ wr).alloc (Nat.le_refl _) _), hBel.out.alloc zZ _⟩, ?_⟩
                    simp [intOf]; omega
                · have hlz : ¬ (j : Int) < (ks.length : Int) := by omega
                  have HALL : Hid (ks.take j = ks) := List.take_of_length_le (by omega)
                  have HE : Hid (DifR a b (chL a b ks)) := difR_of HASC.out (fun s => by rw [HMEM.out, gD_some])
                  have HNC := Lib.hid hn
                  clear hn
                  go_wp2_with fail
                  go_ret2
                  have hsl := Sl.of_own hO.out
                  have hn := HNC.out
                  rw [HALL.out] at hsl hn
                  refine ⟨.inr ⟨a, HLA.out, .inr ⟨b, chL a b ks, A, c, HLB.out, HE.out, by rw [← hn]; rfl, by rw [← hn]; exact hsl, by omega, hcm, by have := chL_len a b ks; omega⟩⟩, ?_⟩
                  exact HB2.out.trans ((HB9.out.trans (hBel.out.mono (by have := HM9.out.lt; have := HZ.out; omega))).mono (by have := HMM.out; have := HB2.out.size; omega))
end Go.Proofs.YtmdhlkkekidknaaGreatDoor

namespace Go.Proofs.YtmdhlkkekidknaaGreatDoor
open Go.RowKit Go.Maps

def rmv (g : ByteArray → Option Value) (s : ByteArray) : ByteArray → Option Value := fun t => if t = s then none else g t
theorem Rm.del {w : World} {P : Program} {k t e : TypeId} {b N : Nat} {g : ByteArray → Option Value} (h : Rm w P k b N g) (hk : P.underlying k = some .string) (ht : P.underlying t = some (.map k e)) {s : ByteArray} (hs : s.size ≤ maxLen) (ty : TypeId) :
    ∃ w', (Builtin.delete_ #[t, k] ty #[.map (some b), .string s]).run P w = .ok (.tuple #[]) w' ∧ Rm w' P k b N (rmv g s) ∧ w.grownBy w' (some b) := by
  obtain ⟨D, h1, h2⟩ := h
  obtain ⟨w', hrun, ho, hg⟩ := h1.drop (string_keyed hk) ht (key_str hk hs) ty
  refine ⟨w', hrun, ⟨_, ho, fun r => ?_⟩, hg.grown⟩
  unfold rmv
  by_cases hr : r = s
  · subst hr
    rw [if_pos rfl]
    exact ⟨has_del_same, fun z => atKey_del_same _⟩
  · rw [if_neg hr]
    exact ⟨(has_del_other (lit_ne hr)).trans (h2 r).1, fun z => (atKey_del_other (lit_ne hr) _).trans ((h2 r).2 z)⟩
theorem wpList_del_rm {P : Program} {w : World} {ops : Array Oper} {rest : List Oper} {o : Oper} {a : Act} {Q : Exit → Act → World → Prop} (hgd : o.guard = none) (m x : Operand) (t k : TypeId) (hop : o.op = Op.call { callee := Callee.builtin Builtin.delete, args := #[m, x], argTypes := #[t, k] })
    (e : TypeId) (hk : P.underlying k = some .string) (ht : P.underlying t = some (.map k e)) (b N : Nat) (g : ByteArray → Option Value) (hm : a.eval m = .map (some b)) (h : Rm w P k b N g)
    (s : ByteArray) (hs : s.size ≤ maxLen) (hx : a.eval x = .string s)
    (hK : ∀ w', Rm w' P k b N (rmv g s) → w.grownBy w' (some b) → wpList P ops Q rest (a.put o.dst (.tuple #[])) w') : wpList P ops Q (o :: rest) a w := by
  refine wpList_plain hgd fun K' hK' => ?_
  obtain ⟨w', hrun, r1, r2⟩ := h.del hk ht hs o.type
  unfold Oper.wp
  simp [execOp, hop, resolve, invoke, builtin, hm, hx, hrun, Result.andThen]
  exact hK' _ _ (hK w' r1 r2)
def gP (m : List Fl) (s : ByteArray) : Option Value := (lookF9 m s).map Value.string
theorem gP_nil : gP [] = fun _ => none := by funext s; simp [gP, lookF9]
theorem gP_snoc {m : List Fl} {f : Fl} (hn : f.1 ∉ m.map Prod.fst) : gP (m ++ [f]) = upd (gP m) f.1 (.string f.2) := by
  funext s
  unfold upd gP
  rw [look9_snoc hn]
  by_cases h : s = f.1
  · subst h; simp
  · have h' : ¬ f.1 = s := fun e => h e.symm
    simp only [if_neg h, if_neg h']
theorem gP_with {m : List Fl} (h : AscF m) (f : Fl) : gP (withF m f) = upd (gP m) f.1 (.string f.2) := by
  funext s
  unfold upd gP
  rw [look_withF h]
  by_cases hs : s = f.1
  · simp only [if_pos hs, Option.map_some]
  · simp only [if_neg hs]
theorem gP_wot {m : List Fl} (h : AscF m) (t : ByteArray) : gP (wotF m t) = rmv (gP m) t := by
  funext s
  unfold rmv gP
  rw [look_wotF h]
  by_cases hs : s = t
  · simp only [if_pos hs, Option.map_none]
  · simp only [if_neg hs]
theorem gP_some (m : List Fl) (s : ByteArray) : (gP m s).isSome = true ↔ (lookF9 m s).isSome = true := by unfold gP; simp
theorem files_of {m : List Fl} {ks : List ByteArray} (hm : AscF m) (hk : Asc ks) (h : ∀ x, x ∈ ks ↔ (gP m x).isSome = true) : ks.map (fun k => ((k, (lookF9 m k).getD eB) : Fl)) = m := by
  refine AscF.ext ?_ hm (fun f => ?_)
  · unfold AscF
    rw [List.pairwise_map]; exact hk
  · have hs := look9_some (asc_nodup hm) (n := f.1) (s := f.2)
    rw [List.mem_map]
    constructor
    · rintro ⟨k, hk', rfl⟩
      have := (gP_some m k).1 ((h k).1 hk')
      obtain ⟨d, hd⟩ := Option.isSome_iff_exists.1 this
      rw [hd]
      exact (look9_some (asc_nodup hm)).1 hd
    · intro hf
      have hd := hs.2 hf
      exact ⟨f.1, (h f.1).2 ((gP_some m f.1).2 (by rw [hd]; rfl)), by rw [hd]; rfl⟩
def PtE (l : List Fl) (c : List FCh) (w : World) (e : Ending) (w' : World) : Prop :=
  (∃ m err, PatR l c m err ∧ ((err ≠ 0 ∧ e = .returned (.tuple #[.slice none 0 0, .int .i64 err])) ∨ (err = 0 ∧ ∃ A cap, e = .returned (.tuple #[.slice A m.length cap, .int .i64 0]) ∧ Sl w' w'.heap.size 2 A m.length (flat flC m) ∧ m.length ≤ cap ∧ cap ≤ maxLen))) ∧ Below w.heap.size w w'
end Go.Proofs.YtmdhlkkekidknaaGreatDoor

namespace Go.Proofs.YtmdhlkkekidknaaGreatDoor
open Go.RowKit Go.Maps

theorem ckC_path {l : List Fl} {prev : Option ByteArray} {x : FCh} (h : ckC l prev x = 0) : pathB x.path = true := by
  unfold ckC at h
  cases hp : pathB x.path with
  | true => rfl
  | false => rw [if_pos hp] at h; cases h
theorem appC_sz {m : List Fl} {x : FCh} (h : ∀ f ∈ m, f.1.size ≤ 1000000 ∧ f.2.size ≤ 60000) (hx : x.path.size ≤ 1000000 ∧ x.new.size ≤ 60000) : ∀ f ∈ appC m x, f.1.size ≤ 1000000 ∧ f.2.size ≤ 60000 := fun f hf => by
  unfold appC at hf
  split at hf
  · rcases mem_withF.1 hf with ⟨h1, _⟩ | rfl
    · exact h f h1
    · exact hx
  · exact h f (mem_wotF.1 hf).1
set_option maxRecDepth 100000 in
set_option maxHeartbeats 16000000 in
theorem tpatch_any (A1 A2 : Option Addr) (m c1 n c2 B : Nat) (l : List Fl) (c : List FCh) (w : World) (h1 : Sl w B 2 A1 m (flat flC l)) (h2 : Sl w B 5 A2 n (flat fcC c)) (hB : B ≤ w.heap.size) (hm : m ≤ 1000000) (hn : n ≤ 400)
    (hsl : ∀ f ∈ l, f.1.size ≤ 1000000 ∧ f.2.size ≤ 60000) (hsc : ∀ x ∈ c, x.path.size ≤ 1000000 ∧ x.new.size ≤ 60000) :
    Calls Tryz.prog 38 #[.slice A1 m c1, .slice A2 n c2] w (PtE l c w) := by
  have H1 := Lib.hid h1; have H2 := Lib.hid h2; have HSL := Lib.hid hsl; have HSC := Lib.hid hsc
  have HL1 := Lib.hid (h1.len flC_len (by omega)); have HL2 := Lib.hid (h2.len fcC_len (by omega))
  have HC := Lib.hid (tcheck_any A1 m c1 B l w h1 hB hm hsl)
  clear h1 h2 hsl hsc
  go_enter Tryz.func38, Tryz.ntmps38
  go_wp2_with fail
  refine HC.out.mono ?_
  rintro e w2 ⟨z, rfl, hz, hb⟩
  have HZ := Lib.hid hz; have HB2 := Lib.hid hb
  clear hz hb HC
  by_cases h0 : z = 0
  case neg =>
    have t1 : (z != 0) = true := by rw [bne_iff_ne]; exact h0
    have H0' := Lib.hid h0
    clear h0
    go_wp2_with fail
    go_ret2
    exact ⟨⟨[], z, .inl ⟨z, HZ.out, H0'.out, rfl⟩, .inl ⟨H0'.out, rfl⟩⟩, HB2.out⟩
  case pos =>
    subst h0
    obtain ⟨hok, hasc⟩ := ck_ok HZ.out (fun f hf => (HSL.out f hf).2)
    have HOK := Lib.hid hok; have HASC := Lib.hid hasc
    have hfew : m ≤ 200 := by rw [← HL1.out]; exact hok.few
    have hmm := @run_makeMap Tryz.prog
    have H1W := Lib.hid (H1.out.below HB2.out hB); have H2W := Lib.hid (H2.out.below HB2.out hB)
    have zB : B ≤ w2.heap.size := Nat.le_trans hB HB2.out.size
    clear hok hasc
    go_wp2_with fail
    obtain ⟨M, hM⟩ : ∃ M, w2.heap.size = M := ⟨_, rfl⟩
    have HM0 : Hid (Rm (w2.alloc (.map #[] 0)) Tryz.prog 9 M 0 (gP (l.take 0))) := by
      show Rm _ _ _ _ _ _
      rw [List.take_zero, gP_nil, ← hM]; exact Rm.made w2 Tryz.prog 9
    have HB3 : Hid (Below M w2 (w2.alloc (.map #[] 0))) := by rw [← hM]; exact (Below.refl _ w2).alloc (Nat.le_refl _) _
    have HMM := Lib.hid hM
    rw [hM] at zB ⊢
    clear hM hmm
    go_loopw [25] (fun i wr => ∃ j : Nat, j ≤ m ∧ i = .int .i64 (j : Int) ∧ Hid (Rm wr Tryz.prog 9 M j (gP (l.take j))) ∧ Hid (Below M w2 wr)) (fun i _ => m - (intOf i).toNat)
    case atStart => exact ⟨0, Nat.zero_le _, rfl, HM0.out, HB3.out⟩
    case round =>
      obtain ⟨j, hj, rfl, hR, hBel⟩ := hrel
      by_cases hlt : j < m
      · have hlz : (j : Int) < (m : Int) := by omega
        obtain ⟨bb, off, f, rfl, hbB, hf, y0, y1⟩ := (H1W.out.below hBel.out zB).fl hlt
        have hfs : f.1.size ≤ 100 := path_len (HOK.out.path f (List.mem_of_getElem? hf))
        have HND := Lib.hid (nod_at HOK.out.nod hf)
        have HTK := Lib.hid (take_snoc hf)
        clear hf
        obtain ⟨fp, fd⟩ := f
        simp only at y0 y1 hfs
        have hsm : fp.size ≤ maxLen := by unfold maxLen; omega
        go_wp2_with (at_mapUpdate; refine halt_ ?_)
        refine unhalt ?_
        refine wpList_put_rm rfl _ _ _ 118 rfl 9 9 Tryz.underlying9 Tryz.underlying118 M j (gP (l.take j)) rfl (hR.out.alloc _) (by unfold maxLen; omega) fp hsm _ rfl rfl ?_
        intro w4 hM4 hg4
        have HM4 : Hid (Rm w4 Tryz.prog 9 M (j + 1) (gP (l.take (j + 1)))) := by
          show Rm _ _ _ _ _ _
          rw [HTK.out, gP_snoc HND.out]; exact hM4
        have zM : M ≤ wr.heap.size := by have := hBel.out.size; have := HMM.out; omega
        have HB4 : Hid (Below M w2 w4) := (hBel.out.alloc zM _).grown hg4 (by simp; omega) (fun k e => by cases e; exact Nat.le_refl _)
        clear hM4 hg4 hR hBel
        go_wp2_with fail
        go_roundw
        case rel => exact ⟨j + 1, hlt, by go_num, HM4.out, HB4.out⟩
        case measure => simp [intOf]; omega
      · have hlz : ¬ (j : Int) < (m : Int) := by omega
        have hje : j = m := by omega
        have HM5 : Hid (Rm wr Tryz.prog 9 M m (gP l)) := by
          have := hR.out
          rw [hje, List.take_of_length_le (by rw [HL1.out]; exact Nat.le_refl _)] at this; exact this
        obtain ⟨wo, hwo⟩ : ∃ wo, wo = wr := ⟨_, rfl⟩
        subst hwo
        have HB5 := Lib.hid hBel.out
        clear hR hBel
        go_wp2_with fail
        go_loopw [37] (fun i wr => ∃ (j : Nat) (q : List Fl), j ≤ n ∧ i = .int .i64 (j : Int) ∧ Hid (PatAt l c j q) ∧ Hid (∀ f ∈ q, f.1.size ≤ 1000000 ∧ f.2.size ≤ 60000) ∧ Hid (Rm wr Tryz.prog 9 M (m + j) (gP q)) ∧ Hid (Below M w2 wr)) (fun i _ => n - (intOf i).toNat)
        case atStart => exact ⟨0, l, Nat.zero_le _, rfl, PatAt.start HASC.out, HSL.out, HM5.out, HB5.out⟩
        case round =>
          clear HM5 HB5
          obtain ⟨j, q, hj, rfl, hP, hSz, hR, hBel⟩ := hrel
          by_cases hlt : j < n
          · have hlz : (j : Int) < (n : Int) := by omega
            obtain ⟨bb, off, x, rfl, hbB, hx, y0, y1, y2, y3, y4⟩ := (H2W.out.below hBel.out zB).fc hlt
            have HX := Lib.hid hx
            have HXS := Lib.hid (HSC.out x (List.mem_of_getElem? hx))
            have hxs := HXS.out.1
            obtain ⟨zz, hzz⟩ : ∃ zz, ckC l (prevC c j) x = zz := ⟨_, rfl⟩
            obtain ⟨W3, hW3⟩ : ∃ W3, wr.alloc (.cells #[.string x.path, .bool x.ho, .bool x.hn, .string x.old, .string x.new] 112) = W3 := ⟨_, rfl⟩
            have zM : M ≤ wr.heap.size := by have := hBel.out.size; have := HMM.out; omega
            have HB6 : Hid (Below M w2 W3) := by rw [← hW3]; exact hBel.out.alloc zM _
            have HK6 : Hid (Bk W3 wr.heap.size 112 #[.string x.path, .bool x.ho, .bool x.hn, .string x.old, .string x.new]) := by rw [← hW3]; exact Bk.new wr _ _
            have HM6 : Hid (Rm W3 Tryz.prog 9 M (m + j) (gP q)) := by rw [← hW3]; exact hR.out.alloc _
            have zBW : B ≤ W3.heap.size := by have := HB6.out.size; have := HMM.out; omega
            have HCK := Lib.hid (ckc_any A1 (some ⟨bb, off, none⟩) m c1 n c2 B j l c x W3 (H1W.out.below HB6.out zB) (H2W.out.below HB6.out zB) zBW hm (by omega) HASC.out hx hxs)
            rw [hzz] at HCK
            have HZZ := Lib.hid hzz
            have HW3 := Lib.hid hW3
            clear hzz hW3 hx hR hBel
            go_wp2_with fail
            rw [HW3.out]
            refine HCK.out.mono ?_
            rintro e w4 ⟨rfl, hb⟩
            have HB7 : Hid (Below M w2 w4) := HB6.out.trans (hb.mono (by have := HB6.out.size; have := HMM.out; omega))
            have HK7 := Lib.hid (HK6.out.below hb HK6.out.lt)
            have HM7 := Lib.hid (HM6.out.below hb HM6.out.lt)
            clear hb HCK HB6 HK6 HM6 HW3 y0 y1 y2 y3 y4
            by_cases hz0 : zz = 0
            · have HZ0 : Hid (ckC l (prevC c j) x = 0) := by show _ = _; rw [HZZ.out]; exact hz0
              have hps : x.path.size ≤ 100 := path_len (ckC_path HZ0.out)
              have hsm : x.path.size ≤ maxLen := by unfold maxLen; omega
              have HP8 := Lib.hid (hP.out.next HX.out HZ0.out)
              have HS8 := Lib.hid (appC_sz hSz.out HXS.out)
              subst hz0
              obtain ⟨y0, y1, y2, y3, y4⟩ : w4.cell? ⟨wr.heap.size, 0, none⟩ = some (.string x.path) ∧ w4.cell? ⟨wr.heap.size, 1, none⟩ = some (.bool x.ho) ∧ w4.cell? ⟨wr.heap.size, 2, none⟩ = some (.bool x.hn) ∧ w4.cell? ⟨wr.heap.size, 3, none⟩ = some (.string x.old) ∧ w4.cell? ⟨wr.heap.size, 4, none⟩ = some (.string x.new) := ⟨HK7.out.cell 0, HK7.out.cell 1, HK7.out.cell 2, HK7.out.cell 3, HK7.out.cell 4⟩
              cases hhn : x.hn with
              | true =>
                rw [hhn] at y2
                have HA8 : Hid (appC q x = withF q (x.path, x.new)) := by show _ = _; unfold appC; rw [if_pos hhn]
                clear hhn
                go_wp2_with (at_mapUpdate; refine halt_ ?_)
                refine unhalt ?_
                refine wpList_put_rm rfl _ _ _ 118 rfl 9 9 Tryz.underlying9 Tryz.underlying118 M (m + j) (gP q) rfl HM7.out (by unfold maxLen; omega) x.path hsm _ rfl rfl ?_
                intro w5 hM5 hg5
                have HM9 : Hid (Rm w5 Tryz.prog 9 M (m + (j + 1)) (gP (appC q x))) := by
                  show Rm _ _ _ _ _ _
                  rw [HA8.out, gP_with hP.out.asc]; exact hM5
                have HB9 : Hid (Below M w2 w5) := HB7.out.grown hg5 (by have := HB7.out.size; have := HMM.out; omega) (fun k e => by cases e; exact Nat.le_refl _)
                clear hM5 hg5 HM7 HB7 y0 y1 y2 y3 y4
                go_wp2_with fail
                go_roundw
                case rel => exact ⟨j + 1, _, hlt, by go_num, HP8.out, HS8.out, HM9.out, HB9.out⟩
                case measure => simp [intOf]; omega
              | false =>
                rw [hhn] at y2
                have HA8 : Hid (appC q x = wotF q x.path) := by show _ = _; unfold appC; rw [if_neg (by rw [hhn]; simp)]
                clear hhn
                go_wp2_with (at_delete; refine halt_ ?_)
                refine unhalt ?_
                refine wpList_del_rm rfl _ _ 118 9 rfl 9 Tryz.underlying9 Tryz.underlying118 M (m + j) (gP q) rfl HM7.out x.path hsm rfl ?_
                intro w5 hM5 hg5
                have HM9 : Hid (Rm w5 Tryz.prog 9 M (m + (j + 1)) (gP (appC q x))) := by
                  show Rm _ _ _ _ _ _
                  rw [HA8.out, gP_wot hP.out.asc]; exact hM5.more (by omega)
                have HB9 : Hid (Below M w2 w5) := HB7.out.grown hg5 (by have := HB7.out.size; have := HMM.out; omega) (fun k e => by cases e; exact Nat.le_refl _)
                clear hM5 hg5 HM7 HB7 y0 y1 y2 y3 y4
                go_wp2_with fail
                go_roundw
                case rel => exact ⟨j + 1, _, hlt, by go_num, HP8.out, HS8.out, HM9.out, HB9.out⟩
                case measure => simp [intOf]; omega
            · have t1 : (zz != 0) = true := by rw [bne_iff_ne]; exact hz0
              have HZ0 : Hid (ckC l (prevC c j) x ≠ 0) := by show _ ≠ _; rw [HZZ.out]; exact hz0
              have HER := Lib.hid (hP.out.err HX.out HZ0.out)
              clear hz0
              go_wp2_with fail
              go_ret2
              refine ⟨⟨[], zz, .inr ⟨HZ.out, .inl ⟨by rw [HER.out]; exact HZ0.out, by rw [HER.out]; exact HZZ.out.symm⟩⟩, .inl ⟨by rw [← HZZ.out]; exact HZ0.out, rfl⟩⟩, HB2.out.trans (HB7.out.mono (by have := HB2.out.size; have := HMM.out; omega))⟩
          · have hlz : ¬ (j : Int) < (n : Int) := by omega
            have HPD := Lib.hid (hP.out.done (by rw [HL2.out]; omega))
            have hNM : m + j ≤ 600 := by omega
            obtain ⟨N0, hN0⟩ : ∃ N0, m + j = N0 := ⟨_, rfl⟩
            have HM7 := Lib.hid hR.out
            rw [hN0] at HM7 hNM
            have HASQ := Lib.hid hP.out.asc
            have HSQ := Lib.hid hSz.out
            obtain ⟨wp, hwp⟩ : ∃ wp, wp = wr := ⟨_, rfl⟩
            subst hwp
            have HB7 := Lib.hid hBel.out
            have HKC := Lib.hid (keysS_any M wp)
            clear hR hBel hP hSz hN0
            go_wp2_with fail
            refine HKC.out.mono ?_
            rintro e w5 ⟨rfl, hw5⟩
            have hb5 : Below wp.heap.size wp w5 := by rw [hw5]; exact (Below.refl _ wp).alloc (Nat.le_refl _) _
            have hk5 : Bk w5 wp.heap.size 118 #[.map (some M)] := by rw [hw5]; exact Bk.new wp _ _
            have HM8 := Lib.hid (HM7.out.below hb5 HM7.out.lt)
            have HSO := Lib.hid (sortedS_any wp.heap.size M N0 (gP q) w5 HM8.out (hk5.cell 0) hk5.lt (by omega))
            unfold SkE at HSO
            have zM : M ≤ wp.heap.size := by have := HB7.out.size; have := HMM.out; omega
            have HB8 : Hid (Below M w2 w5) := HB7.out.trans (hb5.mono zM)
            clear hw5 hb5 hk5 HKC HB7 HM7
            go_wp2_with fail
            refine HSO.out.mono ?_
            rintro e w6 ⟨A7, c7, ks, rfl, hasc, hmem, hlen, hrow, hb6⟩
            have HKA := Lib.hid hasc; have HMEM := Lib.hid hmem
            have HFO := Lib.hid (files_of HASQ.out hasc hmem)
            have zM5 : M ≤ w5.heap.size := by have := HB8.out.size; have := HMM.out; omega
            have HM9 := Lib.hid (HM8.out.below hb6 HM8.out.lt)
            have HB9 : Hid (Below M w2 w6) := HB8.out.trans (hb6.mono zM5)
            have HKS : Hid (Sl w6 w6.heap.size 1 A7 ks.length (strs ks)) := Sl.of_own hrow
            have hML : M < w6.heap.size := HM9.out.lt
            obtain ⟨Z, hZ⟩ : ∃ Z, w6.heap.size = Z := ⟨_, rfl⟩
            have HZZ := Lib.hid hZ
            rw [hZ] at HKS hML
            clear hasc hmem hrow hb6 HSO HM8 HB8 zM5 hZ
            go_wp2_with fail
            obtain ⟨i0, hi, hz0, hz1, hz2⟩ := info_parts infoFile
            have Hi := Lib.hid hi; have Hz0 := Lib.hid hz0; have Hz1 := Lib.hid hz1; have Hz2 := Lib.hid hz2
            clear hi hz0 hz1 hz2
            go_loopw [13, 64] (fun r i wr => ∃ (j : Nat) (A : Option Addr) (c : Nat), j ≤ ks.length ∧ i = .int .i64 (j : Int) ∧ r = .slice A j c ∧ j ≤ c ∧ c ≤ maxLen ∧ Hid (wr.ownsRow Z 68 2 (.slice A j c) j (flat flC ((ks.take j).map (fun k => ((k, (lookF9 q k).getD eB) : Fl))))) ∧ Hid (Below Z w6 wr)) (fun _ i _ => ks.length - (intOf i).toNat)
            case atStart => exact ⟨0, none, 0, Nat.zero_le _, rfl, rfl, Nat.le_refl _, Nat.zero_le _, World.ownsRow_nil _ _ _ _, Below.refl _ _⟩
            case round =>
              obtain ⟨j, A, c, hj, rfl, rfl, hjc, hcm, hO, hBel⟩ := hrel
              by_cases hlt : j < ks.length
              · have hlz : (j : Int) < (ks.length : Int) := by omega
                obtain ⟨bb, off, k, rfl, hbB, hk, y0⟩ := (HKS.out.below hBel.out (Nat.le_refl _)).str_at hlt
                have HTK := Lib.hid (take_snoc hk)
                have hin := (gP_some q k).1 ((HMEM.out k).1 (List.mem_of_getElem? hk))
                obtain ⟨dd, hdd⟩ := Option.isSome_iff_exists.1 hin
                have hks : k.size ≤ 1000000 := (HSQ.out _ ((look9_some (asc_nodup HASQ.out)).1 hdd)).1
                have hsm : k.size ≤ maxLen := by unfold maxLen; omega
                have HDD := Lib.hid hdd
                have hlk : (Instr.lookup 118 (.map (some M)) (.string k) false).run Tryz.prog wr = .ok (.string dd) wr := by
                  have := (HM9.out.below hBel.out hML).look (t := 118) Tryz.underlying9 Tryz.underlying118 (Tryz.zeroValue9 _) (s := k) hsm
                  rw [this]
                  unfold gP
                  rw [hdd]; rfl
                have zZ : Z ≤ wr.heap.size := by have := hBel.out.size; have := HZZ.out; omega
                have HOWN : Hid ((wr.alloc (.cells #[.string k, .string dd] 68)).ownsRow Z 68 2 (.slice A j c) j (flat flC ((ks.take j).map (fun k => ((k, (lookF9 q k).getD eB) : Fl))))) := ownsRow_upon hO.out ((Below.refl _ wr).alloc (Nat.le_refl _) _)
                have HNW : Hid (Sl (wr.alloc (.cells #[.string k, .string dd] 68)) (wr.heap.size + 1) 2 (some ⟨wr.heap.size, 0, none⟩) 1 (flC (k, dd))) := by
                  have h1 := Sl.of_bk (n := 1) (size := 2) (Bk.new wr 68 #[.string k, .string dd]) rfl
                  simp only [World.size_alloc] at h1
                  exact h1
                have HGE : Hid (∀ k, (Value.slice A j c).ownBlock = some k → Z ≤ k) := fun k hk => ownBlock_ge hO.out k hk
                have HB1' : Hid (Below Z w6 (wr.alloc (.cells #[.string k, .string dd] 68))) := hBel.out.alloc zZ _
                have L1 : Hid (j + 1 ≤ maxLen) := by show _ ≤ _; unfold maxLen; omega
                have L2 : Hid ((j + 1) * 32 ≤ 140737488355328) := by show _ ≤ _; omega
                have L3 : Hid (Z ≤ (wr.alloc (.cells #[.string k, .string dd] 68)).heap.size) := by show _ ≤ _; simp; omega
                clear hk hin hdd hBel
                go_wp2_with (at_builtin; refine halt_ ?_)
                refine unhalt ?_
                refine wpList_append_sl (base := Z) (size := 2) _ rfl (.tmp 68) (.tmp 74) 24 rfl 68 i0 _ 32 Tryz.underlying24 Hi.out Hz0.out Hz1.out Hz2.out rfl (by decide) (.slice A j c) j (flat flC ((ks.take j).map (fun k => ((k, (lookF9 q k).getD eB) : Fl)))) rfl HOWN.out (wr.heap.size + 1) _ 1 _ (flC (k, dd)) rfl HNW.out (by simp [flC, Value.oneCell']) L1.out L2.out L3.out ?_
                intro A4 c4 w4 ho4 hg4 hc41 hc42
                have HO4 : Hid (w4.ownsRow Z 68 2 (.slice A4 (j + 1) c4) (j + 1) (flat flC ((ks.take (j + 1)).map (fun k => ((k, (lookF9 q k).getD eB) : Fl))))) := by
                  show World.ownsRow _ _ _ _ _ _ _
                  rw [HTK.out, List.map_append, flat_append]
                  have e : flat flC ([k].map (fun k => ((k, (lookF9 q k).getD eB) : Fl))) = flC (k, dd) := by simp [flat, HDD.out]
                  rw [e]; exact ho4
                have HB4 : Hid (Below Z w6 w4) := HB1'.out.grown hg4 L3.out (fun k hk => HGE.out k hk)
                clear ho4 hg4 hO
                go_wp2_with fail
                refine ⟨⟨j + 1, A4, c4, hlt, by go_num, rfl, hc41, hc42, HO4.out, HB4.out⟩, ?_⟩
                simp [intOf]; omega
              · have hlz : ¬ (j : Int) < (ks.length : Int) := by omega
                have hje : j = ks.length := by omega
                have HROW : Hid (Sl wr wr.heap.size 2 A j (flat flC q)) := by
                  have := Sl.of_own hO.out
                  rw [hje, List.take_length, HFO.out] at this
                  rw [hje]; exact this
                have hjq : j = q.length := by rw [hje, ← HFO.out, List.length_map]
                have HJQ := Lib.hid hjq
                obtain ⟨wq, hwq⟩ : ∃ wq, wq = wr := ⟨_, rfl⟩
                subst hwq
                have HBF : Hid (Below w.heap.size w wq) := HB2.out.trans ((HB9.out.trans (hBel.out.mono (by have := HZZ.out; omega))).mono (by have := HB2.out.size; have := HMM.out; omega))
                have HC := Lib.hid (tcheck_any A j c wq.heap.size q wq HROW.out (Nat.le_refl _) (by omega) HSQ.out)
                clear hO hBel hje hjq
                go_wp2_with fail
                refine HC.out.mono ?_
                rintro e w7 ⟨z, rfl, hz, hb⟩
                have HZ7 := Lib.hid hz
                have HBG : Hid (Below w.heap.size w w7) := HBF.out.trans (hb.mono HBF.out.size)
                have HR7 := Lib.hid (sl_on HROW.out hb)
                clear hz hb HC
                by_cases h0 : z = 0
                · subst h0
                  go_wp2_with fail
                  go_ret2
                  have hr := HR7.out
                  have hj2 := HJQ.out
                  subst hj2
                  exact ⟨⟨q, 0, .inr ⟨HZ.out, .inr ⟨by rw [HPD.out], .inr ⟨by rw [HPD.out]; exact HZ7.out, rfl, by rw [HPD.out]⟩⟩⟩, .inr ⟨rfl, A, c, rfl, hr, hjc, hcm⟩⟩, HBG.out⟩
                · have t1 : (z != 0) = true := by rw [bne_iff_ne]; exact h0
                  have H0' := Lib.hid h0
                  clear h0
                  go_wp2_with fail
                  go_ret2
                  exact ⟨⟨q, z, .inr ⟨HZ.out, .inr ⟨by rw [HPD.out], .inl ⟨z, by rw [HPD.out]; exact HZ7.out, H0'.out, rfl⟩⟩⟩, .inl ⟨H0'.out, rfl⟩⟩, HBG.out⟩
end Go.Proofs.YtmdhlkkekidknaaGreatDoor

namespace Go.Proofs.YtmdhlkkekidknaaGreatDoor
open Go.RowKit

theorem dif_of {q : List Itm} {d1 d2 : Dig} {a b : List Fl} {w w' : World} {e : Ending} (ha : LdSeq q d1 a) (hb : LdSeq q d2 b) (h : DfE q d1 d2 w e w') :
    (∃ c A cap, DifR a b c ∧ e = .returned (.tuple #[.slice A c.length cap, .int .i64 0]) ∧ Sl w' w'.heap.size 5 A c.length (flat fcC c) ∧ c.length ≤ cap ∧ cap ≤ maxLen ∧ c.length ≤ 400) ∧ Below w.heap.size w w' := by
  obtain ⟨h, hb'⟩ := h
  refine ⟨?_, hb'⟩
  rcases h with ⟨err, h1, _⟩ | ⟨a', h1, ⟨err, h2, _⟩ | ⟨b', c, A, cap, h2, h3, rfl, h4, h5, h6, h7⟩⟩
  · exact (ld_not ha h1).elim
  · exact (ld_not hb h2).elim
  · have := ld_uniq h1 ha; subst this
    have := ld_uniq h2 hb; subst this
    exact ⟨c, A, cap, h3, rfl, h4, h5, h6, h7⟩
theorem pat_of {a b : List Fl} {c : List FCh} {w w' : World} {e : Ending} (ha : OkL a) (haa : AscF a) (hb : OkL b) (hba : AscF b) (h : DifR a b c) (hp : PtE a c w e w') :
    (∃ A cap, e = .returned (.tuple #[.slice A b.length cap, .int .i64 0]) ∧ Sl w' w'.heap.size 2 A b.length (flat flC b) ∧ b.length ≤ cap ∧ cap ≤ maxLen) ∧ Below w.heap.size w w' := by
  obtain ⟨⟨m, err, h1, h2⟩, hb'⟩ := hp
  refine ⟨?_, hb'⟩
  have e1 := patch_there ha hb haa hba h
  have t1 : TckR a 0 := ck_back ha haa
  have t2 : TckR b 0 := ck_back hb hba
  have : err = 0 ∧ m = b := by
    rcases h1 with ⟨z, h3, h4, _⟩ | ⟨_, ⟨h3, _⟩ | ⟨_, ⟨z, h3, h4, _⟩ | ⟨_, h3, h4⟩⟩⟩
    · exact absurd (TckR.same h3 t1) h4
    · rw [e1] at h3; exact absurd rfl h3
    · rw [e1] at h3; exact absurd (TckR.same h3 t2) h4
    · rw [e1] at h4; exact ⟨h3, h4⟩
  obtain ⟨rfl, rfl⟩ := this
  rcases h2 with ⟨h2, _⟩ | ⟨_, A, cap, rfl, h3, h4, h5⟩
  · exact absurd rfl h2
  · exact ⟨A, cap, rfl, h3, h4, h5⟩
theorem difR_sz {a b : List Fl} {c : List FCh} (ha : OkL a) (hb : OkL b) (h : DifR a b c) : ∀ x ∈ c, x.path.size ≤ 1000000 ∧ x.new.size ≤ 60000 := by
  intro x hx
  obtain ⟨e1, e2⟩ := (h.mem x).1 hx
  have hp : pathB x.path = true := by
    have h1 := (chg_ok ha hb (s := x.path) (by rw [← e1]; exact e2)).path
    exact h1
  refine ⟨by have := path_len hp; omega, ?_⟩
  have e3 : x.new = (lookF9 b x.path).getD eB := by rw [e1]; rfl
  rw [e3]
  cases hf : lookF9 b x.path with
  | none => show (0 : Nat) ≤ _; omega
  | some s => exact hb.data _ ((look9_some hb.nod).1 hf)
theorem lod_of {p : List Itm} {d : Dig} {w w' : World} {e : Ending} (hp : PlOk p) (hs : ∀ i ∈ p, i.2.size ≤ 60000) (h : LdEE p d w e w') :
    ((∃ z : Int, z ≠ 0 ∧ e = .returned (.tuple #[.slice none 0 0, .int .i64 z])) ∨ ∃ fs A c, LdSeq p d fs ∧ OkL fs ∧ AscF fs ∧ Std p 102 d fs ∧ e = .returned (.tuple #[.slice A fs.length c, .int .i64 0]) ∧ Sl w' w'.heap.size 2 A fs.length (flat flC fs)) ∧ Below w.heap.size w w' := by
  obtain ⟨h, hb⟩ := h
  refine ⟨?_, hb⟩
  rcases h with ⟨fs, A, c, h1, rfl, h3⟩ | ⟨err, h1, h2, rfl⟩
  · obtain ⟨h4, h5⟩ := load_std hp hs h1
    exact .inr ⟨fs, A, c, h1, h4, h1.asc, h5, rfl, Sl.of_own h3⟩
  · exact .inl ⟨err, h2, rfl⟩
theorem lod_std {q : List Itm} {d : Dig} {fs : List Fl} {w w' : World} {e : Ending} (hld : LdSeq q d fs) (h : LdEE q d w e w') :
    (∃ A c, e = .returned (.tuple #[.slice A fs.length c, .int .i64 0]) ∧ Sl w' w'.heap.size 2 A fs.length (flat flC fs)) ∧ Below w.heap.size w w' := by
  obtain ⟨h, hb⟩ := h
  refine ⟨?_, hb⟩
  rcases h with ⟨gs, A, c, h1, rfl, h3⟩ | ⟨err, h1, _⟩
  · have := ld_uniq h1 hld
    subst this
    exact ⟨A, c, rfl, Sl.of_own h3⟩
  · exact (ld_not hld h1).elim
theorem str_again {p : List Itm} {d : Dig} {fs : List Fl} {w w' : World} {e : Ending} (hp : PlOk p) (hok : OkL fs) (hasc : AscF fs) (hstd : Std p 102 d fs) (h : StrE p fs w e w') :
    (∃ A c, e = .returned (.tuple #[.slice A p.length c, digV d, .int .i64 0])) ∧ Below w.heap.size w w' := by
  obtain ⟨h, hb⟩ := h
  refine ⟨?_, hb⟩
  have hs := std_sto hp 101 d fs hok (hstd.fuel hok (fun f hf => by have := path_len (hok.path f hf); omega) (by omega))
  rcases h with ⟨z, h1, h2, _⟩ | ⟨_, ⟨q, d', A, c, h1, _, rfl, _⟩ | ⟨h1, _⟩⟩
  · exact absurd (TckR.same h1 (ck_back hok hasc)) h2
  · rw [hs] at h1
    injection h1 with h1
    injection h1 with h1 h2
    subst h1; subst h2
    exact ⟨A, c, rfl⟩
  · rw [hs] at h1; cases h1
theorem dig_same {p q r : List Itm} {d x : Dig} {a b : List Fl} (hp : PlOk p) (hq : PlOk q) (hr : PlOk r) (h1 : subP p r) (h2 : subP q r) (ha : OkL a) (haa : AscF a) (hb : OkL b) (hba : AscF b) (hs : Std p 101 d a) (ht : Std q 101 x b) (h : d = x) : a = b := by
  subst h
  exact std_uniq hr ha hb haa hba (hs.mono hp hr h1) (ht.mono hq hr h2)
theorem same9B_any (A0 A1 : Option Addr) (n0 c0 n1 c1 B : Nat) (rs qs : List Fl) (w : World) (h0 : Sl w B 2 A0 n0 (flat flC rs)) (h1 : Sl w B 2 A1 n1 (flat flC qs)) (m0 : n0 ≤ maxLen) :
    Calls Tryz.prog 24 #[.slice A0 n0 c0, .slice A1 n1 c1] w fun e w' => e = .returned (.bool (decide (rs = qs))) ∧ Below w.heap.size w w' :=
  (same9_any A0 A1 n0 c0 n1 c1 B rs qs w h0 h1 m0).mono fun _ _ ⟨h, k, hk⟩ => ⟨h, by rw [hk]; exact below_drewN (Below.refl _ _) k⟩
end Go.Proofs.YtmdhlkkekidknaaGreatDoor
